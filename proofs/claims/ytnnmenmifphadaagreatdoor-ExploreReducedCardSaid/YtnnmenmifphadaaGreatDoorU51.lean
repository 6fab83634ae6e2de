/- Law 59: what the walk along all paths keeps, and what it leaves. -/
import Derived.Test.YtnnmenmifphadaaGreatDoorU21
import Derived.Test.YtnnmenmifphadaaGreatDoorU45
import Derived.Test.YtnnmenmifphadaaGreatDoorU49
set_option linter.unusedSimpArgs false
set_option linter.unusedVariables false
set_option maxRecDepth 100000
set_option maxHeartbeats 40000000
namespace Go.Proofs.YtnnmenmifphadaaGreatDoor
open Go.RowKit Go.Maps Go.Sort
abbrev E59 : Expl PW := rowsE (fun _ => True) 0
def PW.rk (P : PW) : Nat := (P.rows.map (fun r => r.l.length - r.i)).sum
theorem sum_mod {l : List RowP} : ∀ {t : Nat} {r : RowP}, l[t]? = some r → r.i < r.l.length → ((l.modify t RowP.nx).map (fun r => r.l.length - r.i)).sum + 1 = (l.map (fun r => r.l.length - r.i)).sum := by
 induction l with
 | nil => intro t r h; simp at h
 | cons x l ih =>
  intro t r h hr
  cases t with
  | zero =>
   simp only [List.getElem?_cons_zero, Option.some.injEq] at h
   subst h
   simp only [List.modify_zero_cons, List.map_cons, List.sum_cons, RowP.nx]
   omega
  | succ t =>
   have := ih (by simpa using h) hr
   simp only [List.modify_succ_cons, List.map_cons, List.sum_cons]
   omega
theorem nx_rk {P : PW} {t : Nat} {a : AS} {c : Int} (ha : P.act t = some a) : (P.nx t a c).rk + 1 = P.rk := by
 obtain ⟨_, r, h1, h2⟩ := act_some ha
 exact sum_mod h1 (List.getElem?_eq_some_iff.1 h2).1
theorem stp_lt {cs : List Nat} {k : Nat} {s : Nat × Nat} (h : s ∈ stpTo cs k) : s.1 < k := by
 unfold stpTo at h
 obtain ⟨t, h1, h2⟩ := List.mem_flatMap.1 h
 obtain ⟨c, _, rfl⟩ := List.mem_map.1 h2
 exact List.mem_range.1 h1
def OkW (L : Nat) (rs : List RowP) (P : PW) : Prop := (∃ n, P.In L 3 n) ∧ P.Of L rs
theorem alike59 (L : Nat) (rs : List RowP) : AlikeE E59 (OkW L rs) PW.rk := by
 refine ⟨?_, ?_⟩
 ·rintro P s ⟨⟨n, hi⟩, ho⟩ hs
  obtain ⟨a, ha, e⟩ := step_parts (stp_mem (P := P) hs)
  show OkW L rs (P.next s) ∧ (P.next s).rk + 1 = P.rk
  rw [e]
  exact ⟨⟨⟨_, nx_in hi ha⟩, nx_of hi.q.hs ho⟩, nx_rk ha⟩
 ·rintro P P' ⟨⟨n, hi⟩, ho⟩ ⟨⟨n', hi'⟩, ho'⟩ hk
  have h := key_sim hi hi' ho ho' hk
  refine ⟨h.cs, ?_, by unfold PW.rk; rw [h.rows], fun s hs => ?_⟩
  ·show P.outP = P'.outP
   unfold PW.outP MW.words
   rw [h.q.hs, h.gots]
  ·refine (h.next (s := s) ?_).key
   have h1 := stp_lt hs
   have h2 := cs_len P
   have h3 := hi.rt
   have h4 := hi.q.vs
   have h5 : s.1 < P.cs.length := h1
   omega
section
variable {bo bk bl : Nat} {O K O' K' : DataW Unit} {lf lf' : Int} {w w' : World}
end
def outsT (d : List (Nat × Nat)) (P : PW) (x : List UInt8) : Prop := ∃ s ∈ d, ∃ y ∈ TE E59 PW.rk (P.next s), stpE E59 y = [] ∧ y.outP = x
def outsP (P : PW) (x : List UInt8) : Prop := ∃ y ∈ TE E59 PW.rk P, stpE E59 y = [] ∧ y.outP = x
section
variable {L : Nat} {rs : List RowP} {P : PW} {x : List UInt8}
theorem outsP_all (h : OkW L rs P) : outsP P x ↔ (stpE E59 P = [] ∧ x = P.outP) ∨ outsT (stpE E59 P) P x := by
 unfold outsP outsT
 constructor
 ·rintro ⟨y, hy, hz, rfl⟩
  rcases (tree_mem (alike59 L rs) h).1 hy with rfl | ⟨s, hs, hy⟩
  ·exact .inl ⟨hz, rfl⟩
  ·exact .inr ⟨s, hs, y, hy, hz, rfl⟩
 ·rintro (⟨hz, rfl⟩ | ⟨s, hs, y, hy, hz, rfl⟩)
  ·exact ⟨P, tree_self (alike59 L rs) h, hz, rfl⟩
  ·exact ⟨y, (tree_mem (alike59 L rs) h).2 (.inr ⟨s, hs, hy⟩), hz, rfl⟩
end
def stv (s : Nat × Nat) : Value := .agg #[.int .i64 ((s.1 : Int) + 1), .int .i64 s.2]
noncomputable def stk (s : Nat × Nat) : Lit := (keyOf Tryz.prog 146 (stv s)).getD (.bool false)
def hasS (D : DataW Unit) (s : Nat × Nat) : Prop := has D (stk s) = true
theorem stp_iff {cs : List Nat} {k : Nat} {s : Nat × Nat} : s ∈ stpTo cs k ↔ s.1 < k ∧ s.2 < cs.getD s.1 0 := by
 unfold stpTo
 rw [List.mem_flatMap]
 constructor
 ·rintro ⟨t, h1, h2⟩
  obtain ⟨c, h3, rfl⟩ := List.mem_map.1 h2
  exact ⟨List.mem_range.1 h1, List.mem_range.1 h3⟩
 ·rintro ⟨h1, h2⟩
  exact ⟨s.1, List.mem_range.2 h1, List.mem_map.2 ⟨s.2, List.mem_range.2 h2, rfl⟩⟩
theorem stpE_iff {P : PW} {s : Nat × Nat} : s ∈ stpE E59 P ↔ s.1 < P.rows.length ∧ s.2 < P.ch s.1 := by
 show s ∈ stpTo P.cs P.cs.length ↔ _
 rw [stp_iff, cs_len, cs_getD]
theorem ch_ind {P : PW} {t u : Nat} {a b : AS} {c : Int} (h : t ≠ u) (hb : P.act u = some b) (hi : indT a b = true) : (P.nx t a c).ch u = P.ch u := by
 unfold PW.ch
 rw [nx_act h, hb]
 show chA (P.q.doq t (actP a) c).1 u b = chA P.q u b
 rw [doq_eff]
 have hl := eff_len (effQ P.q t (actP a) c).1 t P.q
 unfold chA
 simp only
 rw [hl]
 by_cases hc : (b.o = 1 ∨ b.o = 2) ∧ 0 ≤ b.l ∧ b.l < (P.q.hs.length : Int)
 ·rw [if_pos hc, if_pos hc]
  have hg : goodB P.q.hs.length b.o b.l = true := by
   unfold goodB
   rw [decide_eq_true_eq]
   omega
  have hr : rdB b.o = true := by
   unfold rdB
   rcases hc.1 with h1 | h1 <;> rw [h1] <;> rfl
  have e1 : ((effQ P.q t (actP a) c).1.on t P.q).hs.getD b.l.toNat [] = P.q.hs.getD b.l.toNat [] := by
   cases he : (effQ P.q t (actP a) c).1 with
   | wrote k m f x =>
    obtain ⟨g1, g2, rfl⟩ := effL_wrote he
    exact getD_mod _ _ _ _ _ ((ind_apart hi g1 g2 hg).1 (by rw [hr]; rfl))
   | _ => rfl
  have e2 : ((effQ P.q t (actP a) c).1.on t P.q).vs.getD u (fun _ => 0) = P.q.vs.getD u (fun _ => 0) := by
   cases (effQ P.q t (actP a) c).1 with
   | seen f => exact getD_set _ _ _ _ _ h
   | wrote k m f x => exact getD_set _ _ _ _ _ h
   | _ => rfl
  rw [e1, e2]
 ·rw [if_neg hc, if_neg hc]
def indS (P : PW) (s o : Nat × Nat) : Prop := o.1 ≠ s.1 ∧ ∃ a b, P.act s.1 = some a ∧ P.act o.1 = some b ∧ indT a b = true
theorem ind_com {P : PW} {s o : Nat × Nat} (hs : s ∈ stpE E59 P) (ho : o ∈ stpE E59 P) (hi : indS P s o) : (P.next s).next o = (P.next o).next s ∧ o ∈ stpE E59 (P.next s) ∧ s ∈ stpE E59 (P.next o) := by
 obtain ⟨hne, a, b, ha, hb, hi⟩ := hi
 obtain ⟨h1, h2⟩ := stpE_iff.1 hs
 obtain ⟨h3, h4⟩ := stpE_iff.1 ho
 have es : P.next s = P.nx s.1 a s.2 := by unfold PW.next; rw [ha]
 have eo : P.next o = P.nx o.1 b o.2 := by unfold PW.next; rw [hb]
 have hi' : indT b a = true := by rw [indT_comm]; exact hi
 refine ⟨?_, stpE_iff.2 ⟨?_, ?_⟩, stpE_iff.2 ⟨?_, ?_⟩⟩
 ·rw [es, eo]
  unfold PW.next
  rw [nx_act (Ne.symm hne), hb, nx_act hne, ha]
  exact nx_comm P (Ne.symm hne) a b _ _ hi
 ·rw [es]
  show o.1 < (P.rows.modify _ _).length
  rwa [List.length_modify]
 ·rw [es, ch_ind (Ne.symm hne) hb hi]
  exact h4
 ·rw [eo]
  show s.1 < (P.rows.modify _ _).length
  rwa [List.length_modify]
 ·rw [eo, ch_ind hne ha hi']
  exact h2
def DC (P : PW) (Z : Nat × Nat → Prop) (F : DataW Unit) : Prop := ∀ x, outsP P x → has F (.string x) = true ∨ ∃ z, Z z ∧ z ∈ stpE E59 P ∧ outsP (P.next z) x
def DS (P : PW) (Z : Nat × Nat → Prop) (F : DataW Unit) (s : Nat × Nat) : Prop := ∀ x, outsP (P.next s) x → has F (.string x) = true ∨ ∃ z, Z z ∧ z ∈ stpE E59 P ∧ outsP (P.next z) x
theorem DC.mono {P : PW} {Z Z' : Nat × Nat → Prop} {F F' : DataW Unit} (h : DC P Z F) (hZ : ∀ s, Z s → Z' s) (hF : ∀ x, has F (.string x) = true → has F' (.string x) = true) : DC P Z' F' := fun x hx =>
 (h x hx).imp (hF x) (fun ⟨z, h1, h2⟩ => ⟨z, hZ z h1, h2⟩)
theorem DS.mono {P : PW} {Z : Nat × Nat → Prop} {F F' : DataW Unit} {s : Nat × Nat} (h : DS P Z F s) (hF : ∀ x, has F (.string x) = true → has F' (.string x) = true) : DS P Z F' s := fun x hx => (h x hx).imp_left (hF x)
section
variable {L : Nat} {rs : List RowP} {P P' : PW}
theorem outs_alike (h : OkW L rs P) (h' : OkW L rs P') (hk : P.keyP = P'.keyP) {x : List UInt8} (ho : outsP P' x) : outsP P x := by
 obtain ⟨y, hy, hz, rfl⟩ := ho
 obtain ⟨y', m, e, o1, o2⟩ := tree_alike (alike59 L rs) _ rfl h h' hk hy
 obtain ⟨h1, h2, _⟩ := (alike59 L rs).alike o1 o2 e
 exact ⟨y', m, by unfold stpE; rw [h1]; exact hz, h2⟩
theorem DC.alike {Z : Nat × Nat → Prop} {F : DataW Unit} (h : OkW L rs P) (h' : OkW L rs P') (hk : P.keyP = P'.keyP) (hd : DC P Z F) : DC P' Z F := fun x hx => by
 obtain ⟨h1, h2, h3, h4⟩ := (alike59 L rs).alike h h' hk
 refine (hd x (outs_alike h h' hk hx)).imp_right (fun ⟨z, g1, g2, g3⟩ => ?_)
 have hz' : z ∈ stpE E59 P' := by unfold stpE; rw [← h1]; exact g2
 exact ⟨z, g1, hz', outs_alike ((alike59 L rs).next h' hz').1 ((alike59 L rs).next h g2).1 (h4 z g2).symm g3⟩
theorem ds_step {Z Lf Zs : Nat × Nat → Prop} {F F2 : DataW Unit} {s : Nat × Nat} {d : List (Nat × Nat)} (h : OkW L rs P) (hs : s ∈ stpE E59 P) (hL : ∀ o, Lf o → o ∈ stpE E59 P ∧ (Z o ∨ o ∈ d)) (hd : ∀ o ∈ d, DS P Z F o) (hF : ∀ x, has F (.string x) = true → has F2 (.string x) = true) (hZs : ∀ o, Zs o → Lf o ∧ indS P s o) (hdc : DC (P.next s) Zs F2) : DS P Z F2 s := fun x hx => by
 rcases hdc x hx with h1 | ⟨o, g1, g2, g3⟩
 ·exact .inl h1
 ·obtain ⟨g4, g5⟩ := hZs o g1
  obtain ⟨g6, g7⟩ := hL o g4
  obtain ⟨e, e2, e3⟩ := ind_com hs g6 g5
  rw [e] at g3
  have ho := ((alike59 L rs).next h g6).1
  have g8 : outsP (P.next o) x := (outsP_all ho).2 (.inr (by obtain ⟨y, hy, hz, ey⟩ := g3; exact ⟨s, e3, y, hy, hz, ey⟩))
  rcases g7 with g7 | g7
  ·exact .inr ⟨o, g7, g6, g8⟩
  ·exact (hd o g7 x g8).imp_left (hF x)
theorem dc_end {Z : Nat × Nat → Prop} {F : DataW Unit} (h : OkW L rs P) (ho : stpE E59 P = [] → has F (.string P.outP) = true) (hd : ∀ s ∈ stpE E59 P, DS P Z F s) : DC P Z F := fun x hx => by
 rcases (outsP_all h).1 hx with ⟨h1, rfl⟩ | ⟨s, hs, y, hy, hz, ey⟩
 ·exact .inl (ho h1)
 ·exact hd s hs x ⟨y, hy, hz, ey⟩
theorem ds_sleeps {Z : Nat × Nat → Prop} {F : DataW Unit} {s : Nat × Nat} (hs : s ∈ stpE E59 P) (hz : Z s) : DS P Z F s := fun x hx => .inr ⟨s, hz, hs, hx⟩
end
def ClR (L : Nat) (rs : List RowP) (r : Nat) (Sn : List UInt8 → List (DataW Unit)) (F : DataW Unit) : Prop := ∀ y, OkW L rs y → y.rk ≤ r → ∀ Z ∈ Sn y.keyP, DC y (hasS Z) F
structure LeftR (L : Nat) (rs : List RowP) (T : PW → Prop) (os : List UInt8 → Prop) (r : Nat) (Sn : List UInt8 → List (DataW Unit)) (F : DataW Unit) (Sn' : List UInt8 → List (DataW Unit)) (F' : DataW Unit) : Prop where
 ms : ∀ k Z, Z ∈ Sn k → Z ∈ Sn' k
 ns : ∀ k Z, Z ∈ Sn' k → Z ∈ Sn k ∨ ∃ y, T y ∧ y.keyP = k
 mf : ∀ x, has F (.string x) = true → has F' (.string x) = true
 nf : ∀ x, has F' (.string x) = true → has F (.string x) = true ∨ os x
 cl : ClR L rs r Sn' F'
def addZ (Sn : List UInt8 → List (DataW Unit)) (k : List UInt8) (Z : DataW Unit) : List UInt8 → List (DataW Unit) := fun x => if x = k then Sn x ++ [Z] else Sn x
section
variable {L : Nat} {rs : List RowP} {P : PW} {Sn Sn2 : List UInt8 → List (DataW Unit)} {F F2 : DataW Unit} {Z : DataW Unit}
theorem clr_add (h : OkW L rs P) (hc : ClR L rs P.rk Sn F) (hF : ∀ x, has F (.string x) = true → has F2 (.string x) = true) : ∀ y, OkW L rs y → y.rk + 1 ≤ P.rk → ∀ Z' ∈ addZ Sn P.keyP Z y.keyP, DC y (hasS Z') F2 := fun y hy hr Z' hz => by
 have hne : y.keyP ≠ P.keyP := fun e => by
  have := ((alike59 L rs).alike hy h e).2.2.1
  omega
 unfold addZ at hz
 rw [if_neg hne] at hz
 exact (hc y hy oM Z' hz).mono (fun _ h => h) hF
theorem left_end (h : OkW L rs P) (hc : ClR L rs P.rk Sn F) (hF : ∀ x, has F (.string x) = true → has F2 (.string x) = true) (hms : ∀ k Z', Z' ∈ addZ Sn P.keyP Z k → Z' ∈ Sn2 k) (hns : ∀ k Z', Z' ∈ Sn2 k → Z' ∈ addZ Sn P.keyP Z k ∨ ∃ s ∈ stpE E59 P, ∃ y ∈ TE E59 PW.rk (P.next s), y.keyP = k) (hnf : ∀ x, has F2 (.string x) = true → has F (.string x) = true ∨ outsP P x) (hcl : ∀ y, OkW L rs y → y.rk + 1 ≤ P.rk → ∀ Z' ∈ Sn2 y.keyP, DC y (hasS Z') F2) (hdc : DC P (hasS Z) F2) :
  LeftR L rs (fun y => y ∈ TE E59 PW.rk P) (outsP P) P.rk Sn F Sn2 F2 := by
 refine ⟨fun k Z' hz => hms k Z' ?_, fun k Z' hz => ?_, hF, hnf, fun y hy hr Z' hz => ?_⟩
 ·unfold addZ
  split
  ·exact List.mem_append_left _ hz
  ·exact hz
 ·rcases hns k Z' hz with h1 | ⟨s, hs, y, hy, e⟩
  ·unfold addZ at h1
   split at h1
   ·rename_i e
    exact .inr ⟨P, tree_self (alike59 L rs) h, e.symm⟩
   ·exact .inl h1
  ·exact .inr ⟨y, (tree_mem (alike59 L rs) h).2 (.inr ⟨s, hs, hy⟩), e⟩
 ·by_cases hlt : y.rk + 1 ≤ P.rk
  ·exact hcl y hy hlt Z' hz
  ·rcases hns _ Z' hz with h1 | ⟨s, hs, y', hy', e⟩
   ·unfold addZ at h1
    split at h1
    ·rename_i e
     rcases List.mem_append.1 h1 with h2 | h2
     ·exact (hc y hy hr Z' h2).mono (fun _ h => h) hF
     ·rw [List.mem_singleton] at h2
      subst h2
      exact hdc.alike h hy e.symm
    ·exact (hc y hy hr Z' h1).mono (fun _ h => h) hF
   ·obtain ⟨g1, g2⟩ := (alike59 L rs).next h hs
    obtain ⟨g3, g4⟩ := tree_ok (alike59 L rs) _ rfl g1 hy'
    have := ((alike59 L rs).alike g3 hy e).2.2.1
    omega
end
theorem allP_rows (Ok : PW → Prop) (B0 : Nat) (most : Int) : ∀ (n : Nat) (x : PW) (S F : DataW Unit), allP (rowsE Ok B0) most n x S F = allP E59 most n x S F := by
 intro n
 induction n with
 | zero => intro x S F; rfl
 | succ n ih =>
  intro x S F
  rw [allP_succ, allP_succ]
  have e : stepP (rowsE Ok B0) most n x = stepP E59 most n x := by
   funext r s
   unfold stepP
   split
   ·exact ih _ _ _
   ·rfl
  rw [e]
  rfl
def OkB (L : Nat) (rs : List RowP) (P : PW) : Prop := (∃ n, P.In L 3 n ∧ n + P.rk ≤ 90) ∧ P.Of L rs ∧ ∀ b ∈ P.ss, b = false
theorem okB_ok {L : Nat} {rs : List RowP} (B0 : Nat) (hL : 0 < L ∧ L ≤ 12) (hB : 0 < B0) : ExplOK (rowsE (OkB L rs) B0) B0 :=
 rows_ok _ B0 hB (fun P ⟨⟨n, h1, h2⟩, h3, h4⟩ => ⟨h1.fits oM oM oM, fun r hr => (h1.rows r hr).1, h4⟩) (fun P s ⟨⟨n, h1, h2⟩, h3, h4⟩ hs => by
  obtain ⟨a, ha, e⟩ := step_parts (stp_mem (P := P) hs)
  rw [e]
  have := nx_rk (c := s.2) ha
  exact ⟨⟨n + 1, nx_in h1 ha, by omega⟩, nx_of h1.q.hs h3, h4⟩)
theorem strT_owns {R : Value → Option (DataW Unit × List MemPlace)} {b n : Nat} {D : DataW Unit} {w : World} (h : w.ownsMap Tryz.prog 9 R b n D) : StrT D := by
 obtain ⟨es, e, hp, _⟩ := h.entries (string_keyed Tryz.underlying9)
 obtain ⟨es', e', hk⟩ := h.keysOf
 subst e
 injection e' with e'
 subst e'
 refine ⟨es, rfl, hp, fun p hp' => ?_⟩
 obtain ⟨v, hv⟩ := hk p hp'
 obtain ⟨x, _, hx, _⟩ := Maps.keyOf_str Tryz.underlying9 hv
 exact ⟨x, hx⟩
theorem str_cells {W : World} {B g : Nat} {l : List (List UInt8)} (h : Rd W B 1 (some ⟨g, 0, none⟩) l.length (l.map encStr)) (hl : 0 < l.length) : ∀ j, j < (l.map (fun x => (⟨x.toArray⟩ : ByteArray))).length → W.cell? ⟨g, 0 + j, none⟩ = some (.string ((l.map (fun x => (⟨x.toArray⟩ : ByteArray))).getD j ByteArray.empty)) := by
 intro j hj
 rw [List.length_map] at hj
 obtain ⟨b, off, e, _, hc⟩ := h.2 hl
 cases e
 have h1 : (l.map encStr)[j]? = some (encStr l[j]) := by rw [List.getElem?_map, List.getElem?_eq_getElem hj]; rfl
 rw [hc j _ h1, List.getD_eq_getElem?_getD, List.getElem?_map, List.getElem?_eq_getElem hj]
 rfl
theorem equal_rowsB (v1 v2 : Value) (l : List (List UInt8)) (B1 B2 : Nat) (W : World) (h1 : W.ownsRow B1 9 1 v1 l.length (l.map encStr)) (h2 : W.ownsRow B2 9 1 v2 l.length (l.map encStr)) (hl : l.length ≤ 100000000000) :
  Calls Tryz.prog 11 #[v1, v2] W (Ret (.bool true) W) := by
 by_cases h0 : l.length = 0
 ·have e : ∀ (B : Nat) (v : Value), W.ownsRow B 9 1 v l.length (l.map encStr) → ∃ a c, v = .slice a 0 c := fun B v h => by
   rcases h.2 with ⟨rfl, _⟩ | ⟨g, c, cur, rfl, _⟩
   ·exact ⟨none, 0, rfl⟩
   ·exact ⟨_, c, by rw [h0]⟩
  obtain ⟨a1, c1, rfl⟩ := e _ _ h1
  obtain ⟨a2, c2, rfl⟩ := e _ _ h2
  refine (Tryz.slices_Equal_string_empty a1 a2 c1 0 c2 W oM).mono ?_
  rintro e w' ⟨rfl, rfl⟩
  exact ⟨rfl, Below.refl _ _⟩
 ·obtain ⟨g1, c1, rfl, _, _, r1⟩ := own_some h1 oM
  obtain ⟨g2, c2, rfl, _, _, r2⟩ := own_some h2 oM
  refine (Tryz.slices_Equal_string g1 0 l.length c1 g2 0 l.length c2 (l.map (fun x => (⟨x.toArray⟩ : ByteArray))) (l.map (fun x => (⟨x.toArray⟩ : ByteArray))) W sM sM oM oM (str_cells r1 oM) (str_cells r2 oM)).mono ?_
  rintro e w' ⟨rfl, q, rfl⟩
  exact ⟨by rw [decide_eq_true rfl], below_drewN (Below.refl _ _) q⟩
theorem PW0_rk (ws : List W3) (x : ActsV) : (PW0 ws x).rk = x.tot 3 := by
 unfold PW.rk PW0 ActsV.tot
 simp [List.map_map, Function.comp_def]
end Go.Proofs.YtnnmenmifphadaaGreatDoor
