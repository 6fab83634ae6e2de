/- Package line: Flush. -/
import Derived.Test.YtnnmenmifphadaaGreatDoorU37
set_option linter.unusedSimpArgs false
set_option linter.unusedVariables false
set_option maxRecDepth 100000
set_option maxHeartbeats 40000000
namespace Go.Proofs.YtnnmenmifphadaaGreatDoor
open Go.RowKit Go.Maps
theorem wpList_lookup_own_v {H : Type} {P : Program} (w : World) {ops : Array Oper} {rest : List Oper} {o : Oper} {a : Act} {Q : Exit → Act → World → Prop}
  (hg : o.guard = none) (m x : Operand) (t : TypeId) (hop : o.op = Op.lookup t m x false)
  (k e : TypeId) (K : Keyed P k) (ht : P.underlying t = some (.map k e)) (R : Value → Option (DataW H × List MemPlace)) {z : Value} (hz : (zeroValue e).run P w = .ok z w) (zd : DataW H) (zp : List MemPlace) (hzd : R z = some (zd, zp)) (b n : Nat) (D : DataW H)
  (hm : a.eval m = .map (some b)) (hown : w.ownsMap P k R b n D) (key : Value) (kl : Lit) (hx : a.eval x = key) (hkey : keyOf P k key = some kl)
  (hK : ∀ v ps, R v = some (D.atKey kl zd, ps) → wpList P ops Q rest (a.put o.dst v) w) :
  wpList P ops Q (o :: rest) a w := by
 refine wpList_plain hg fun K' hK' => ?_
 obtain ⟨v, ps, hrun, hv⟩ := hown.lookup K ht hz hzd hkey
 unfold Oper.wp
 simp [execOp, hop, hm, hx, hrun, Result.andThen]
 exact hK' _ _ (hK v ps hv)
def askP (G : Nat → Int → Int) (t : Nat) (n v : Int) : Nat → Int → Int := fun t' => if t' = t then upd (G t) n v else G t'
theorem askP_same (G : Nat → Int → Int) (t : Nat) (n v : Int) : askP G t n v t = upd (G t) n v := if_pos rfl
theorem askP_other {G : Nat → Int → Int} {t t' : Nat} (n v : Int) (h : t' ≠ t) : askP G t n v t' = G t' := if_neg h
theorem upd_ask {N : Nat} {g : Int → Int} {n v : Int} (hg : ∀ z, 0 ≤ g z ∧ (z < 0 ∨ (N : Int) ≤ z → g z = 0)) (h0 : 0 ≤ n) (h1 : n < (N : Int)) (hv : 0 ≤ v) : ∀ z, 0 ≤ upd g n v z ∧ (z < 0 ∨ (N : Int) ≤ z → upd g n v z = 0) := by
 intro z
 have := hg z
 unfold upd
 split
 ·exact ⟨hv, fun h => by omega⟩
 ·exact this
theorem AskR.made {N b : Nat} {w : World} {D : DataW Unit} {g : Int → Int} {n v : Int} (hg : ∀ z, 0 ≤ g z ∧ (z < 0 ∨ (N : Int) ≤ z → g z = 0)) (ho : w.ownsMap Tryz.prog 3 (plainElem Tryz.prog 3) b (N + 1) (D.put (.int .i64 n) (.lit (.int .i64 v)))) (hk : KeysK D N) (hr : ∀ z, (Lit.int .i64 z).wf = true → D.atKey (.int .i64 z) (.lit (.int .i64 0)) = .lit (.int .i64 (g z))) (h0 : 0 ≤ n) (h1 : n < (N : Int)) (hN : N ≤ 4096) (hv : 0 ≤ v) : AskR N w (some b) (upd g n v) := by
 have hk2 := hk.put h0 h1 (.lit (.int .i64 v))
 exact ⟨upd_ask hg h0 h1 hv, .inr ⟨b, _, rfl, own_fitK ho law_int hk2, hk2, reads_upd hk.isMap hr n v (WalkArith.wf_i64 oM), ⟨.int .i64 n, has_put_same hk.isMap (show WideAt.IsKeyLit (.int .i64 _) from True.intro) _⟩⟩⟩
theorem AsksR.made {N b n : Nat} {w : World} {D : DataW Unit} {G : Nat → Int → Int} {t bi : Nat} {l v : Int} (ho : w.ownsMap Tryz.prog 3 ptrE b n (D.put (.int .i64 ((t : Int) + 1)) (.lit (.int .i64 bi)))) (hk : KeysK D 9) (ht : t < 8) (h3 : ∀ t : Nat, t < 8 → ∃ u, D.atKey (.int .i64 ((t : Int) + 1)) (.lit (.bool false)) = encM u ∧ AskR N w u (G t)) (hi : AskR N w (some bi) (upd (G t) l v)) : AsksR N w (some b) (askP G t l v) := by
 have hk2 := hk.put (x := (t : Int) + 1) oM oM (.lit (.int .i64 bi))
 refine .inr ⟨b, _, rfl, own_fitK ho law_int hk2, hk2, fun t' ht' => ?_⟩
 by_cases e : t' = t
 ·subst e
  exact ⟨some bi, atKey_put_same hk.isMap (show WideAt.IsKeyLit (.int .i64 _) from True.intro) _ _, by rw [askP_same]; exact hi⟩
 ·obtain ⟨u, e1, e2⟩ := h3 t' ht'
  refine ⟨u, ?_, by rw [askP_other _ _ e]; exact e2⟩
  rw [atKey_put_other (by intro h; injection h with _ h; omega)]
  exact e1
theorem line_flush (m : LinesV) (t k : Nat) (g : LogV) (G : Nat → Int → Int) (w : World) (hR : m.R w) (hA : AsksR m.logs.length w m.asks G) (ht : t < 8) (hk : k < m.first.length) (hk4 : k < 4096) (hg : m.logs[k / 8]? = some g) (hl : m.logs.length ≤ 4096) (hg6 : g.l.length ≤ 1000000) :
  Calls Tryz.prog 112 #[(.agg #[.slice (m).fA (m).first.length (m).fc, .slice (m).lA (m).logs.length (m).lc, .map (m).asks]), .int .i64 ((t : Int) + 1), .int .i64 k] w fun e w' => ∃ b' : Nat, e = .returned (.tuple #[.agg #[.slice m.fA m.first.length m.fc, .slice m.lA m.logs.length m.lc, .map (some b')], .int .i64 0]) ∧ AsksR m.logs.length w' (some b') (askP G t ((k : Int) / 8) g.l.length) ∧ w.heap.size ≤ b' ∧ Below w.heap.size w w' := by
 have hkl : k / 8 < m.logs.length := (List.getElem?_eq_some_iff.1 hg).1
 obtain ⟨bl, off, e, hbl, hcl⟩ := Rd.elem hR.2.2.2.1 logc_len hkl hg
 have hhas := fun W => line_has m k W hk
 obtain ⟨fA, fc, first, lA, lc, logs, asks⟩ := m
 simp only at e hkl hhas hA hl hk
 subst e
 have q0 : w.cell? ⟨bl, off + k / 8 * 2, none⟩ = some (.slice g.A g.l.length g.cap) := hcl 0 _ rfl
 have Hhas := hide hhas
 have kl0 : (0 : Int) ≤ (k : Int) / 8 := by omega
 have kl1 : (k : Int) / 8 < (logs.length : Int) := by omega
 have ktn : ((k : Int) / 8).toNat = k / 8 := by omega
 have hwk : (Lit.int .i64 ((t : Int) + 1)).wf = true := WalkArith.wf_i64 oM
 have kn0 : (0 : Int) ≤ (k : Int) := by omega
 have kn1 : (k : Int) < 4096 := by omega
 have hwl : (Lit.int .i64 (g.l.length : Int)).wf = true := WalkArith.wf_i64 oM
 have hwn : (Lit.int .i64 ((k : Int) / 8)).wf = true := WalkArith.wf_i64 oM
 have hzi : ∀ W, (zeroValue 220).run Tryz.prog W = .ok (.map none) W := fun W => Tryz.zeroValue220 W
 have hlk : ∀ W, (Instr.lookup 31 (.map none) (.int .i64 ((t : Int) + 1)) false).run Tryz.prog W = .ok (.map none) W := fun W => Maps.look_nil false (int_keyed Tryz.underlying3) Tryz.underlying31 (Tryz.zeroValue220 W) (keyOf_int_mk Tryz.underlying3 hwk)
 have hqi := fun (w : World) (r : Option Nat) => run_eql_map_nil (P := Tryz.prog) w _ _ _ r Tryz.underlying220
 have hqo := fun (w : World) (r : Option Nat) => run_eql_map_nil (P := Tryz.prog) w _ _ _ r Tryz.underlying31
 have hmm := @run_makeMap Tryz.prog
 have hz0 : bl ≠ w.heap.size := by omega
 have hz1 : bl ≠ w.heap.size + 1 := by omega
 have hz2 : bl < w.heap.size + 1 + 1 := by omega
 have Hl := hide hl
 clear hR hhas hcl hg hkl
 rcases hA with ⟨rfl, hG⟩ | ⟨b, D, rfl, hown, hK, h3⟩
 ·go_enter Tryz.func112, Tryz.ntmps112
  go_upto_region 9 with (first
   | (go_at_call 123; refine (line_thread t _ ht).mono ?_; rintro e w1 ⟨rfl, rfl⟩)
   | (go_at_call 140; refine (Hhas.out _).mono ?_; rintro e w2 ⟨rfl, hb2⟩; obtain ⟨hcc2, hff2, hs2⟩ := bC hb2; (try simp at hs2); have hz20 : w.heap.size < w2.heap.size := oM; have hz21 : w.heap.size + 1 < w2.heap.size := oM; have hz22 : bl < w2.heap.size := oM; have hB2 : Below w.heap.size w w2 := (ab0))
   | (go_at_call 141; refine (clone_inner_nil _).mono ?_; rintro e w3 ⟨rfl, rfl⟩))
  obtain ⟨wa, hwa⟩ : ∃ W : World, W = w3.alloc (.map #[] 0) := ⟨_, rfl⟩
  have hBa : Below w.heap.size w wa := by rw [hwa]; exact ab0
  have hownM : wa.ownsMap Tryz.prog 3 (plainElem (H := Unit) Tryz.prog 3) w3.heap.size logs.length (.map []) := by rw [hwa]; exact (World.ownsMap_made _ _ _ _).mono (Nat.zero_le _)
  have hIB : w.heap.size + 1 < w3.heap.size ∧ w3.heap.size < wa.heap.size := by rw [hwa]; refine ⟨by omega, by simp⟩
  have r0 : wa.cell? ⟨w.heap.size, 0, none⟩ = some (.slice fA first.length fc) := by rw [hwa]; go_simp
  have r1 : wa.cell? ⟨w.heap.size, 1, none⟩ = some (.slice (some ⟨bl, off, none⟩) logs.length lc) := by rw [hwa]; go_simp
  have r2 : wa.cell? ⟨w.heap.size, 2, none⟩ = some (.map none) := by rw [hwa]; go_simp
  have r3 : wa.cell? ⟨w.heap.size + 1, 0, none⟩ = some (.slice none 0 0) := by rw [hwa]; go_simp
  have r4 : wa.cell? ⟨w.heap.size + 1, 1, none⟩ = some (.slice none 0 0) := by rw [hwa]; go_simp
  have r5 : wa.cell? ⟨w.heap.size + 1, 2, none⟩ = some (.map none) := by rw [hwa]; go_simp
  have f0 : ∀ o, wa.frozen? ⟨w.heap.size, o, none⟩ = false := by intro o; rw [hwa]; go_simp
  have f1 : ∀ o, wa.frozen? ⟨w.heap.size + 1, o, none⟩ = false := by intro o; rw [hwa]; go_simp
  have q2 : wa.cell? ⟨bl, off + k / 8 * 2, none⟩ = some (.slice g.A g.l.length g.cap) := by rw [hwa]; go_simp
  rw [← hwa]
  clear hwa hcc2 hff2 hb2 hB2
  obtain ⟨IB, hIBe⟩ : ∃ n, n = w3.heap.size := ⟨_, rfl⟩
  rw [← hIBe] at hownM hIB
  rw [← hIBe]
  clear hIBe hs2 hz20 hz21 hz22
  have hza0 : w.heap.size < wa.heap.size := by omega
  have hza1 : w.heap.size + 1 < wa.heap.size := by omega
  go_wp2_with (at_mapUpdate; refine wpList_mapUpdate_own _ rfl _ _ _ 220 rfl 3 3 law_int Tryz.underlying220 _ IB logs.length (.map []) rfl hownM (by have := Hl.out; unfold maxLen; omega) _ _ _ rfl rfl (keyOf_int_mk Tryz.underlying3 hwn) _ [] (plainElem_int Tryz.underlying3 hwl) ?_; intro w4 hown4 hg4; obtain ⟨g4a, g4b⟩ := grown_cell hg4 (b := w.heap.size) (by first | omega | (simp; omega)) (by intro e; injection e with e; omega); obtain ⟨g4c, g4d⟩ := grown_cell hg4 (b := w.heap.size + 1) (by first | omega | (simp; omega)) (by intro e; injection e with e; omega))
  have hs4 := hg4.size
  have u0 : w4.cell? ⟨w.heap.size, 0, none⟩ = some (.slice fA first.length fc) := by first | (rw [g4a]; go_simp) | (rw [g4c]; go_simp) | (rw [g4b]; go_simp) | (rw [g4d]; go_simp)
  have u1 : w4.cell? ⟨w.heap.size, 1, none⟩ = some (.slice (some ⟨bl, off, none⟩) logs.length lc) := by first | (rw [g4a]; go_simp) | (rw [g4c]; go_simp) | (rw [g4b]; go_simp) | (rw [g4d]; go_simp)
  have u2 : w4.cell? ⟨w.heap.size, 2, none⟩ = some (.map none) := by first | (rw [g4a]; go_simp) | (rw [g4c]; go_simp) | (rw [g4b]; go_simp) | (rw [g4d]; go_simp)
  have u3 : w4.cell? ⟨w.heap.size + 1, 0, none⟩ = some (.slice none 0 0) := by first | (rw [g4a]; go_simp) | (rw [g4c]; go_simp) | (rw [g4b]; go_simp) | (rw [g4d]; go_simp)
  have u4 : w4.cell? ⟨w.heap.size + 1, 1, none⟩ = some (.slice none 0 0) := by first | (rw [g4a]; go_simp) | (rw [g4c]; go_simp) | (rw [g4b]; go_simp) | (rw [g4d]; go_simp)
  have u5 : w4.cell? ⟨w.heap.size + 1, 2, none⟩ = some (.map none) := by first | (rw [g4a]; go_simp) | (rw [g4c]; go_simp) | (rw [g4b]; go_simp) | (rw [g4d]; go_simp)
  have v0 : ∀ o, w4.frozen? ⟨w.heap.size, o, none⟩ = false := by intro o; first | (rw [g4a]; go_simp) | (rw [g4c]; go_simp) | (rw [g4b]; go_simp) | (rw [g4d]; go_simp)
  have v1 : ∀ o, w4.frozen? ⟨w.heap.size + 1, o, none⟩ = false := by intro o; first | (rw [g4a]; go_simp) | (rw [g4c]; go_simp) | (rw [g4b]; go_simp) | (rw [g4d]; go_simp)
  have hB4 : Below w.heap.size w w4 := Below.grown hBa hg4 oM (fun j hj => by cases hj; omega)
  have hz40 : w.heap.size < w4.heap.size := by omega
  have hz41 : w.heap.size + 1 < w4.heap.size := by omega
  have HB4 := hide hB4
  have Hown4 := hide hown4
  clear g4a g4b g4c g4d hg4 hown4 hownM r0 r1 r2 r3 r4 r5 f0 f1 q2 hB4 hBa
  refine (clone_outer_nil _).mono ?_
  rintro e w5 ⟨rfl, h5⟩
  obtain rfl := h5.symm
  go_upto_region 13 with fail
  obtain ⟨w5, hw5⟩ : ∃ W : World, W = (((w4.setCell ⟨w.heap.size, 2, none⟩ (.map none)).setCell ⟨w.heap.size, 2, none⟩ (.map (some w4.heap.size))).alloc (.map #[] 0)) := ⟨_, rfl⟩
  have hs5 : w5.heap.size = w4.heap.size + 1 := by rw [hw5]; simp
  have hB5 : Below w.heap.size w w5 := by rw [hw5]; have hB4' := HB4.out; exact ab0
  have hown5 : w5.ownsMap Tryz.prog 3 ptrE w4.heap.size 9 (.map []) := by rw [hw5]; have q := (World.ownsMap_made (H := Unit) ((w4.setCell ⟨w.heap.size, 2, none⟩ (.map none)).setCell ⟨w.heap.size, 2, none⟩ (.map (some w4.heap.size))) Tryz.prog 3 ptrE).mono (Nat.zero_le 9); simpa using q
  have hinn5 := ((Hown4.out.setCell (a := ⟨w.heap.size, 2, none⟩) (by show IB ≠ w.heap.size; omega) (.map none)).setCell (a := ⟨w.heap.size, 2, none⟩) (by show IB ≠ w.heap.size; omega) (.map (some w4.heap.size))).alloc (.map #[] 0)
  rw [← hw5] at hinn5
  have x0 : w5.cell? ⟨w.heap.size, 0, none⟩ = some (.slice fA first.length fc) := by rw [hw5]; go_simp
  have x1 : w5.cell? ⟨w.heap.size, 1, none⟩ = some (.slice (some ⟨bl, off, none⟩) logs.length lc) := by rw [hw5]; go_simp
  have x2 : w5.cell? ⟨w.heap.size, 2, none⟩ = some (.map (some w4.heap.size)) := by rw [hw5]; go_simp
  have x3 : w5.cell? ⟨w.heap.size + 1, 0, none⟩ = some (.slice none 0 0) := by rw [hw5]; go_simp
  have x4 : w5.cell? ⟨w.heap.size + 1, 1, none⟩ = some (.slice none 0 0) := by rw [hw5]; go_simp
  have x5 : w5.cell? ⟨w.heap.size + 1, 2, none⟩ = some (.map none) := by rw [hw5]; go_simp
  have y0 : ∀ o, w5.frozen? ⟨w.heap.size, o, none⟩ = false := by intro o; rw [hw5]; go_simp
  have y1 : ∀ o, w5.frozen? ⟨w.heap.size + 1, o, none⟩ = false := by intro o; rw [hw5]; go_simp
  rw [← hw5]
  have Hinn5 := hide hinn5
  have HB5 := hide hB5
  have hz50 : w.heap.size < w5.heap.size := by omega
  have hz51 : w.heap.size + 1 < w5.heap.size := by omega
  clear hw5 u0 u1 u2 u3 u4 u5 v0 v1 hinn5 hB5
  go_wp2_with (at_mapUpdate; refine wpList_mapUpdate_own _ rfl _ _ _ 31 rfl 3 220 law_int Tryz.underlying31 ptrE w4.heap.size 9 (.map []) rfl hown5 (by unfold maxLen; omega) _ _ _ rfl rfl (keyOf_int_mk Tryz.underlying3 hwk) (encM (some IB)) [] (ptrE_mk _) ?_; intro w6 hown6 hg6; obtain ⟨g6a, g6b⟩ := grown_cell hg6 (b := w.heap.size) (by first | omega | (simp; omega)) (by intro e; injection e with e; omega); obtain ⟨g6c, g6d⟩ := grown_cell hg6 (b := w.heap.size + 1) (by first | omega | (simp; omega)) (by intro e; injection e with e; omega))
  have hs6 := hg6.size
  have hB6 : Below w.heap.size w w6 := Below.grown HB5.out hg6 oM (fun j hj => by cases hj; omega)
  have d0 : w6.cell? ⟨w.heap.size + 1, 0, none⟩ = some (.slice none 0 0) := by rw [g6c]; exact x3
  have d1 : w6.cell? ⟨w.heap.size + 1, 1, none⟩ = some (.slice none 0 0) := by rw [g6c]; exact x4
  have d2 : w6.cell? ⟨w.heap.size + 1, 2, none⟩ = some (.map none) := by rw [g6c]; exact x5
  have hin6 := Hinn5.out.kept hg6 (by intro e; injection e with e; omega)
  have hr0 : ∀ z, (Lit.int .i64 z).wf = true → (DataW.map [] : DataW Unit).atKey (.int .i64 z) (.lit (.int .i64 0)) = .lit (.int .i64 (G t z)) := fun z _ => by rw [hG t z]; rfl
  have hG0 : ∀ (t : Nat) z, 0 ≤ G t z ∧ (z < 0 ∨ (logs.length : Int) ≤ z → G t z = 0) := fun t z => by rw [hG t z]; exact ⟨Int.le_refl 0, fun _ => rfl⟩
  have hA6 : AsksR logs.length w6 (some w4.heap.size) (askP G t ((k : Int) / 8) g.l.length) := AsksR.made hown6 (KeysK.empty 9) ht (fun t' _ => ⟨none, rfl, hG0 t', .inl ⟨rfl, hG t'⟩⟩) (AskR.made (hG0 t) hin6 (KeysK.empty _) hr0 kl0 kl1 Hl.out oM)
  have hfin := hide (AsksR.set (AsksR.set (AsksR.set hA6 (HasC.of d0) (.slice fA first.length fc)) (HasC.set (.of d1) _) (.slice (some ⟨bl, off, none⟩) logs.length lc)) (HasC.set (HasC.set (.of d2) _) _) (.map (some w4.heap.size)))
  refine bodyPost_ret (v := .tuple #[.agg #[.slice fA first.length fc, .slice (some ⟨bl, off, none⟩) logs.length lc, .map (some w4.heap.size)], .int .i64 0]) (by simp [results, Tryz.results112, go_sem]; (try go_simp)) rfl ⟨w4.heap.size, rfl, ?_, by omega, ab0⟩
  with_reducible exact hfin.out
 ·obtain ⟨u, hu, hbd, hAu⟩ := h3 t ht
  have Hown := hide hown
  have HK := hide hK
  have H3 := hide h3
  have Hu := hide hu
  have Hbd := hide hbd
  clear hown hK h3 hu hbd
  rcases hAu with ⟨rfl, hG0⟩ | ⟨bi, Di, rfl, hinn, hKi, hri, -⟩
  ·have HG0 := hide hG0
   clear hG0
   go_enter Tryz.func112, Tryz.ntmps112
   go_upto_region 9 with (first
    | (go_at_call 123; refine (line_thread t _ ht).mono ?_; rintro e w1 ⟨rfl, rfl⟩)
    | (go_at_call 140; refine (Hhas.out _).mono ?_; rintro e w2 ⟨rfl, hb2⟩; obtain ⟨hcc2, hff2, hs2⟩ := bC hb2; (try simp at hs2); have hz20 : w.heap.size < w2.heap.size := oM; have hz21 : w.heap.size + 1 < w2.heap.size := oM; have hz22 : bl < w2.heap.size := oM; have hB2 : Below w.heap.size w w2 := (ab0))
    | (at_lookup; refine wpList_lookup_own_v _ rfl _ _ 31 rfl 3 220 law_int Tryz.underlying31 ptrE (hzi _) (encM none) [] rfl b 9 D rfl (Hown.out.kept (grown_of_below (by first | with_reducible assumption | exact ab0) none) sM) _ (.int .i64 ((t : Int) + 1)) rfl (keyOf_int_mk Tryz.underlying3 hwk) ?_; intro v ps hv; rw [show (encM none : DataW Unit) = .lit (.bool false) from rfl, Hu.out] at hv; obtain rfl := ptrE_inv hv; clear hv)
    | (go_at_call 141; refine (clone_inner_nil _).mono ?_; rintro e w3 ⟨rfl, rfl⟩))
   obtain ⟨wa, hwa⟩ : ∃ W : World, W = w3.alloc (.map #[] 0) := ⟨_, rfl⟩
   have hBa : Below w.heap.size w wa := by rw [hwa]; exact ab0
   have hownM : wa.ownsMap Tryz.prog 3 (plainElem (H := Unit) Tryz.prog 3) w3.heap.size logs.length (.map []) := by rw [hwa]; exact (World.ownsMap_made _ _ _ _).mono (Nat.zero_le _)
   have hIB : w.heap.size + 1 < w3.heap.size ∧ w3.heap.size < wa.heap.size := by rw [hwa]; refine ⟨by omega, by simp⟩
   have r0 : wa.cell? ⟨w.heap.size, 0, none⟩ = some (.slice fA first.length fc) := by rw [hwa]; go_simp
   have r1 : wa.cell? ⟨w.heap.size, 1, none⟩ = some (.slice (some ⟨bl, off, none⟩) logs.length lc) := by rw [hwa]; go_simp
   have r2 : wa.cell? ⟨w.heap.size, 2, none⟩ = some (.map (some b)) := by rw [hwa]; go_simp
   have r3 : wa.cell? ⟨w.heap.size + 1, 0, none⟩ = some (.slice none 0 0) := by rw [hwa]; go_simp
   have r4 : wa.cell? ⟨w.heap.size + 1, 1, none⟩ = some (.slice none 0 0) := by rw [hwa]; go_simp
   have r5 : wa.cell? ⟨w.heap.size + 1, 2, none⟩ = some (.map none) := by rw [hwa]; go_simp
   have f0 : ∀ o, wa.frozen? ⟨w.heap.size, o, none⟩ = false := by intro o; rw [hwa]; go_simp
   have f1 : ∀ o, wa.frozen? ⟨w.heap.size + 1, o, none⟩ = false := by intro o; rw [hwa]; go_simp
   have q2 : wa.cell? ⟨bl, off + k / 8 * 2, none⟩ = some (.slice g.A g.l.length g.cap) := by rw [hwa]; go_simp
   rw [← hwa]
   clear hwa hcc2 hff2 hb2 hB2
   obtain ⟨IB, hIBe⟩ : ∃ n, n = w3.heap.size := ⟨_, rfl⟩
   rw [← hIBe] at hownM hIB
   rw [← hIBe]
   clear hIBe hs2 hz20 hz21 hz22
   have hza0 : w.heap.size < wa.heap.size := by omega
   have hza1 : w.heap.size + 1 < wa.heap.size := by omega
   go_wp2_with (at_mapUpdate; refine wpList_mapUpdate_own _ rfl _ _ _ 220 rfl 3 3 law_int Tryz.underlying220 _ IB logs.length (.map []) rfl hownM (by have := Hl.out; unfold maxLen; omega) _ _ _ rfl rfl (keyOf_int_mk Tryz.underlying3 hwn) _ [] (plainElem_int Tryz.underlying3 hwl) ?_; intro w4 hown4 hg4; obtain ⟨g4a, g4b⟩ := grown_cell hg4 (b := w.heap.size) (by first | omega | (simp; omega)) (by intro e; injection e with e; omega); obtain ⟨g4c, g4d⟩ := grown_cell hg4 (b := w.heap.size + 1) (by first | omega | (simp; omega)) (by intro e; injection e with e; omega))
   have hs4 := hg4.size
   have u0 : w4.cell? ⟨w.heap.size, 0, none⟩ = some (.slice fA first.length fc) := by first | (rw [g4a]; go_simp) | (rw [g4c]; go_simp) | (rw [g4b]; go_simp) | (rw [g4d]; go_simp)
   have u1 : w4.cell? ⟨w.heap.size, 1, none⟩ = some (.slice (some ⟨bl, off, none⟩) logs.length lc) := by first | (rw [g4a]; go_simp) | (rw [g4c]; go_simp) | (rw [g4b]; go_simp) | (rw [g4d]; go_simp)
   have u2 : w4.cell? ⟨w.heap.size, 2, none⟩ = some (.map (some b)) := by first | (rw [g4a]; go_simp) | (rw [g4c]; go_simp) | (rw [g4b]; go_simp) | (rw [g4d]; go_simp)
   have u3 : w4.cell? ⟨w.heap.size + 1, 0, none⟩ = some (.slice none 0 0) := by first | (rw [g4a]; go_simp) | (rw [g4c]; go_simp) | (rw [g4b]; go_simp) | (rw [g4d]; go_simp)
   have u4 : w4.cell? ⟨w.heap.size + 1, 1, none⟩ = some (.slice none 0 0) := by first | (rw [g4a]; go_simp) | (rw [g4c]; go_simp) | (rw [g4b]; go_simp) | (rw [g4d]; go_simp)
   have u5 : w4.cell? ⟨w.heap.size + 1, 2, none⟩ = some (.map none) := by first | (rw [g4a]; go_simp) | (rw [g4c]; go_simp) | (rw [g4b]; go_simp) | (rw [g4d]; go_simp)
   have v0 : ∀ o, w4.frozen? ⟨w.heap.size, o, none⟩ = false := by intro o; first | (rw [g4a]; go_simp) | (rw [g4c]; go_simp) | (rw [g4b]; go_simp) | (rw [g4d]; go_simp)
   have v1 : ∀ o, w4.frozen? ⟨w.heap.size + 1, o, none⟩ = false := by intro o; first | (rw [g4a]; go_simp) | (rw [g4c]; go_simp) | (rw [g4b]; go_simp) | (rw [g4d]; go_simp)
   have hB4 : Below w.heap.size w w4 := Below.grown hBa hg4 oM (fun j hj => by cases hj; omega)
   have hz40 : w.heap.size < w4.heap.size := by omega
   have hz41 : w.heap.size + 1 < w4.heap.size := by omega
   have HB4 := hide hB4
   have Hown4 := hide hown4
   clear g4a g4b g4c g4d hg4 hown4 hownM r0 r1 r2 r3 r4 r5 f0 f1 q2 hB4 hBa
   refine (clone_outer _ (Hown.out.kept (grown_of_below HB4.out none) sM)).mono ?_
   rintro e w7 ⟨rfl, hown7, hs7, hb7⟩
   obtain ⟨hcc7, hff7⟩ := bcell hb7
   have hz70 : w.heap.size < w7.heap.size := by omega
   have hz71 : w.heap.size + 1 < w7.heap.size := by omega
   go_upto_region 13 with fail
   obtain ⟨w5, hw5⟩ : ∃ W : World, W = w7.setCell ⟨w.heap.size, 2, none⟩ (.map (some w4.heap.size)) := ⟨_, rfl⟩
   have hs5 : w5.heap.size = w7.heap.size := by rw [hw5]; simp
   have hB5 : Below w.heap.size w w5 := by rw [hw5]; have hB4' := HB4.out; have hb7' := hb7.mono (show w.heap.size ≤ w4.heap.size by omega); exact Below.setCell (hB4'.trans hb7') (p := ⟨w.heap.size, 2, none⟩) (Nat.le_refl _) _
   have hown5 : w5.ownsMap Tryz.prog 3 ptrE w4.heap.size 9 D := by rw [hw5]; exact hown7.setCell (a := ⟨w.heap.size, 2, none⟩) (by show w4.heap.size ≠ w.heap.size; omega) _
   have hinn5 := (Hown4.out.kept (grown_of_below hb7 none) sM).setCell (a := ⟨w.heap.size, 2, none⟩) (by show IB ≠ w.heap.size; omega) (.map (some w4.heap.size))
   rw [← hw5] at hinn5
   have x0 : w5.cell? ⟨w.heap.size, 0, none⟩ = some (.slice fA first.length fc) := by rw [hw5]; go_simp
   have x1 : w5.cell? ⟨w.heap.size, 1, none⟩ = some (.slice (some ⟨bl, off, none⟩) logs.length lc) := by rw [hw5]; go_simp
   have x2 : w5.cell? ⟨w.heap.size, 2, none⟩ = some (.map (some w4.heap.size)) := by rw [hw5]; go_simp
   have x3 : w5.cell? ⟨w.heap.size + 1, 0, none⟩ = some (.slice none 0 0) := by rw [hw5]; go_simp
   have x4 : w5.cell? ⟨w.heap.size + 1, 1, none⟩ = some (.slice none 0 0) := by rw [hw5]; go_simp
   have x5 : w5.cell? ⟨w.heap.size + 1, 2, none⟩ = some (.map none) := by rw [hw5]; go_simp
   have y0 : ∀ o, w5.frozen? ⟨w.heap.size, o, none⟩ = false := by intro o; rw [hw5]; go_simp
   have y1 : ∀ o, w5.frozen? ⟨w.heap.size + 1, o, none⟩ = false := by intro o; rw [hw5]; go_simp
   rw [← hw5]
   have Hinn5 := hide hinn5
   have HB5 := hide hB5
   have hz50 : w.heap.size < w5.heap.size := by omega
   have hz51 : w.heap.size + 1 < w5.heap.size := by omega
   clear hw5 u0 u1 u2 u3 u4 u5 v0 v1 hinn5 hB5 hcc7 hff7 hown7
   go_wp2_with (at_mapUpdate; refine wpList_mapUpdate_own _ rfl _ _ _ 31 rfl 3 220 law_int Tryz.underlying31 ptrE w4.heap.size 9 D rfl hown5 (by unfold maxLen; omega) _ _ _ rfl rfl (keyOf_int_mk Tryz.underlying3 hwk) (encM (some IB)) [] (ptrE_mk _) ?_; intro w6 hown6 hg6; obtain ⟨g6a, g6b⟩ := grown_cell hg6 (b := w.heap.size) (by first | omega | (simp; omega)) (by intro e; injection e with e; omega); obtain ⟨g6c, g6d⟩ := grown_cell hg6 (b := w.heap.size + 1) (by first | omega | (simp; omega)) (by intro e; injection e with e; omega))
   have hs6 := hg6.size
   have hB6 : Below w.heap.size w w6 := Below.grown HB5.out hg6 oM (fun j hj => by cases hj; omega)
   have d0 : w6.cell? ⟨w.heap.size + 1, 0, none⟩ = some (.slice none 0 0) := by rw [g6c]; exact x3
   have d1 : w6.cell? ⟨w.heap.size + 1, 1, none⟩ = some (.slice none 0 0) := by rw [g6c]; exact x4
   have d2 : w6.cell? ⟨w.heap.size + 1, 2, none⟩ = some (.map none) := by rw [g6c]; exact x5
   have hin6 := Hinn5.out.kept hg6 (by intro e; injection e with e; omega)
   have h36 : ∀ t : Nat, t < 8 → ∃ u, D.atKey (.int .i64 ((t : Int) + 1)) (.lit (.bool false)) = encM u ∧ AskR logs.length w6 u (G t) := fun t' ht' => by
    obtain ⟨u', e1, e2⟩ := H3.out t' ht'
    exact ⟨u', e1, e2.below (hB6)⟩
   have hr0 : ∀ z, (Lit.int .i64 z).wf = true → (DataW.map [] : DataW Unit).atKey (.int .i64 z) (.lit (.int .i64 0)) = .lit (.int .i64 (G t z)) := fun z _ => by rw [HG0.out z]; rfl
   have hA6 : AsksR logs.length w6 (some w4.heap.size) (askP G t ((k : Int) / 8) g.l.length) := AsksR.made hown6 HK.out ht h36 (AskR.made Hbd.out hin6 (KeysK.empty _) hr0 kl0 kl1 Hl.out oM)
   have hfin := hide (AsksR.set (AsksR.set (AsksR.set hA6 (HasC.of d0) (.slice fA first.length fc)) (HasC.set (.of d1) _) (.slice (some ⟨bl, off, none⟩) logs.length lc)) (HasC.set (HasC.set (.of d2) _) _) (.map (some w4.heap.size)))
   refine bodyPost_ret (v := .tuple #[.agg #[.slice fA first.length fc, .slice (some ⟨bl, off, none⟩) logs.length lc, .map (some w4.heap.size)], .int .i64 0]) (by simp [results, Tryz.results112, go_sem]; (try go_simp)) rfl ⟨w4.heap.size, rfl, ?_, by omega, ab0⟩
   with_reducible exact hfin.out
  ·have Hinn := hide hinn
   have HKi := hide hKi
   have Hri := hide hri
   clear hinn hKi hri
   go_enter Tryz.func112, Tryz.ntmps112
   go_upto_region 9 with (first
    | (go_at_call 123; refine (line_thread t _ ht).mono ?_; rintro e w1 ⟨rfl, rfl⟩)
    | (go_at_call 140; refine (Hhas.out _).mono ?_; rintro e w2 ⟨rfl, hb2⟩; obtain ⟨hcc2, hff2, hs2⟩ := bC hb2; (try simp at hs2); have hz20 : w.heap.size < w2.heap.size := oM; have hz21 : w.heap.size + 1 < w2.heap.size := oM; have hz22 : bl < w2.heap.size := oM; have hB2 : Below w.heap.size w w2 := (ab0))
    | (at_lookup; refine wpList_lookup_own_v _ rfl _ _ 31 rfl 3 220 law_int Tryz.underlying31 ptrE (hzi _) (encM none) [] rfl b 9 D rfl (Hown.out.kept (grown_of_below (by first | with_reducible assumption | exact ab0) none) sM) _ (.int .i64 ((t : Int) + 1)) rfl (keyOf_int_mk Tryz.underlying3 hwk) ?_; intro v ps hv; rw [show (encM none : DataW Unit) = .lit (.bool false) from rfl, Hu.out] at hv; obtain rfl := ptrE_inv hv; clear hv)
    | (go_at_call 141; refine (clone_inner _ (Hinn.out.kept (grown_of_below hB2 none) sM)).mono ?_; rintro e w3 ⟨rfl, hownM0, hs30, hb3⟩))
   have hs3 := hb3.size
   obtain ⟨hcc3, hff3⟩ := bcell hb3
   have hownM := hownM0
   have hBa : Below w.heap.size w w3 := hB2.trans (hb3.mono oM)
   have hz30 : w.heap.size < w3.heap.size := by omega
   have hz31 : w.heap.size + 1 < w3.heap.size := by omega
   have hz32 : bl < w3.heap.size := by omega
   have r0 : w3.cell? ⟨w.heap.size, 0, none⟩ = some (.slice fA first.length fc) := by go_simp
   have r1 : w3.cell? ⟨w.heap.size, 1, none⟩ = some (.slice (some ⟨bl, off, none⟩) logs.length lc) := by go_simp
   have r2 : w3.cell? ⟨w.heap.size, 2, none⟩ = some (.map (some b)) := by go_simp
   have r3 : w3.cell? ⟨w.heap.size + 1, 0, none⟩ = some (.slice none 0 0) := by go_simp
   have r4 : w3.cell? ⟨w.heap.size + 1, 1, none⟩ = some (.slice none 0 0) := by go_simp
   have r5 : w3.cell? ⟨w.heap.size + 1, 2, none⟩ = some (.map none) := by go_simp
   have f0 : ∀ o, w3.frozen? ⟨w.heap.size, o, none⟩ = false := by intro o; go_simp
   have f1 : ∀ o, w3.frozen? ⟨w.heap.size + 1, o, none⟩ = false := by intro o; go_simp
   have q2 : w3.cell? ⟨bl, off + k / 8 * 2, none⟩ = some (.slice g.A g.l.length g.cap) := by go_simp
   have hIB : w.heap.size + 1 < w2.heap.size ∧ w2.heap.size < w3.heap.size := by omega
   obtain ⟨IB, hIBe⟩ : ∃ n, n = w2.heap.size := ⟨_, rfl⟩
   rw [← hIBe] at hownM hIB
   rw [← hIBe]
   clear hIBe hownM0 hb3 hcc3 hff3 hcc2 hff2 hb2 hB2 hs2 hs3 hs30 hz20 hz21 hz22
   obtain ⟨wa, rfl⟩ : ∃ W : World, W = w3 := ⟨_, rfl⟩
   have hza0 : w.heap.size < wa.heap.size := by omega
   have hza1 : w.heap.size + 1 < wa.heap.size := by omega
   go_wp2_with (at_mapUpdate; refine wpList_mapUpdate_own _ rfl _ _ _ 220 rfl 3 3 law_int Tryz.underlying220 _ IB logs.length Di rfl hownM (by have := Hl.out; unfold maxLen; omega) _ _ _ rfl rfl (keyOf_int_mk Tryz.underlying3 hwn) _ [] (plainElem_int Tryz.underlying3 hwl) ?_; intro w4 hown4 hg4; obtain ⟨g4a, g4b⟩ := grown_cell hg4 (b := w.heap.size) (by first | omega | (simp; omega)) (by intro e; injection e with e; omega); obtain ⟨g4c, g4d⟩ := grown_cell hg4 (b := w.heap.size + 1) (by first | omega | (simp; omega)) (by intro e; injection e with e; omega))
   have hs4 := hg4.size
   have u0 : w4.cell? ⟨w.heap.size, 0, none⟩ = some (.slice fA first.length fc) := by first | (rw [g4a]; go_simp) | (rw [g4c]; go_simp) | (rw [g4b]; go_simp) | (rw [g4d]; go_simp)
   have u1 : w4.cell? ⟨w.heap.size, 1, none⟩ = some (.slice (some ⟨bl, off, none⟩) logs.length lc) := by first | (rw [g4a]; go_simp) | (rw [g4c]; go_simp) | (rw [g4b]; go_simp) | (rw [g4d]; go_simp)
   have u2 : w4.cell? ⟨w.heap.size, 2, none⟩ = some (.map (some b)) := by first | (rw [g4a]; go_simp) | (rw [g4c]; go_simp) | (rw [g4b]; go_simp) | (rw [g4d]; go_simp)
   have u3 : w4.cell? ⟨w.heap.size + 1, 0, none⟩ = some (.slice none 0 0) := by first | (rw [g4a]; go_simp) | (rw [g4c]; go_simp) | (rw [g4b]; go_simp) | (rw [g4d]; go_simp)
   have u4 : w4.cell? ⟨w.heap.size + 1, 1, none⟩ = some (.slice none 0 0) := by first | (rw [g4a]; go_simp) | (rw [g4c]; go_simp) | (rw [g4b]; go_simp) | (rw [g4d]; go_simp)
   have u5 : w4.cell? ⟨w.heap.size + 1, 2, none⟩ = some (.map none) := by first | (rw [g4a]; go_simp) | (rw [g4c]; go_simp) | (rw [g4b]; go_simp) | (rw [g4d]; go_simp)
   have v0 : ∀ o, w4.frozen? ⟨w.heap.size, o, none⟩ = false := by intro o; first | (rw [g4a]; go_simp) | (rw [g4c]; go_simp) | (rw [g4b]; go_simp) | (rw [g4d]; go_simp)
   have v1 : ∀ o, w4.frozen? ⟨w.heap.size + 1, o, none⟩ = false := by intro o; first | (rw [g4a]; go_simp) | (rw [g4c]; go_simp) | (rw [g4b]; go_simp) | (rw [g4d]; go_simp)
   have hB4 : Below w.heap.size w w4 := Below.grown hBa hg4 oM (fun j hj => by cases hj; omega)
   have hz40 : w.heap.size < w4.heap.size := by omega
   have hz41 : w.heap.size + 1 < w4.heap.size := by omega
   have HB4 := hide hB4
   have Hown4 := hide hown4
   clear g4a g4b g4c g4d hg4 hown4 hownM r0 r1 r2 r3 r4 r5 f0 f1 q2 hB4 hBa
   refine (clone_outer _ (Hown.out.kept (grown_of_below HB4.out none) sM)).mono ?_
   rintro e w7 ⟨rfl, hown7, hs7, hb7⟩
   obtain ⟨hcc7, hff7⟩ := bcell hb7
   have hz70 : w.heap.size < w7.heap.size := by omega
   have hz71 : w.heap.size + 1 < w7.heap.size := by omega
   go_upto_region 13 with fail
   obtain ⟨w5, hw5⟩ : ∃ W : World, W = w7.setCell ⟨w.heap.size, 2, none⟩ (.map (some w4.heap.size)) := ⟨_, rfl⟩
   have hs5 : w5.heap.size = w7.heap.size := by rw [hw5]; simp
   have hB5 : Below w.heap.size w w5 := by rw [hw5]; have hB4' := HB4.out; have hb7' := hb7.mono (show w.heap.size ≤ w4.heap.size by omega); exact Below.setCell (hB4'.trans hb7') (p := ⟨w.heap.size, 2, none⟩) (Nat.le_refl _) _
   have hown5 : w5.ownsMap Tryz.prog 3 ptrE w4.heap.size 9 D := by rw [hw5]; exact hown7.setCell (a := ⟨w.heap.size, 2, none⟩) (by show w4.heap.size ≠ w.heap.size; omega) _
   have hinn5 := (Hown4.out.kept (grown_of_below hb7 none) sM).setCell (a := ⟨w.heap.size, 2, none⟩) (by show IB ≠ w.heap.size; omega) (.map (some w4.heap.size))
   rw [← hw5] at hinn5
   have x0 : w5.cell? ⟨w.heap.size, 0, none⟩ = some (.slice fA first.length fc) := by rw [hw5]; go_simp
   have x1 : w5.cell? ⟨w.heap.size, 1, none⟩ = some (.slice (some ⟨bl, off, none⟩) logs.length lc) := by rw [hw5]; go_simp
   have x2 : w5.cell? ⟨w.heap.size, 2, none⟩ = some (.map (some w4.heap.size)) := by rw [hw5]; go_simp
   have x3 : w5.cell? ⟨w.heap.size + 1, 0, none⟩ = some (.slice none 0 0) := by rw [hw5]; go_simp
   have x4 : w5.cell? ⟨w.heap.size + 1, 1, none⟩ = some (.slice none 0 0) := by rw [hw5]; go_simp
   have x5 : w5.cell? ⟨w.heap.size + 1, 2, none⟩ = some (.map none) := by rw [hw5]; go_simp
   have y0 : ∀ o, w5.frozen? ⟨w.heap.size, o, none⟩ = false := by intro o; rw [hw5]; go_simp
   have y1 : ∀ o, w5.frozen? ⟨w.heap.size + 1, o, none⟩ = false := by intro o; rw [hw5]; go_simp
   rw [← hw5]
   have Hinn5 := hide hinn5
   have HB5 := hide hB5
   have hz50 : w.heap.size < w5.heap.size := by omega
   have hz51 : w.heap.size + 1 < w5.heap.size := by omega
   clear hw5 u0 u1 u2 u3 u4 u5 v0 v1 hinn5 hB5 hcc7 hff7 hown7
   go_wp2_with (at_mapUpdate; refine wpList_mapUpdate_own _ rfl _ _ _ 31 rfl 3 220 law_int Tryz.underlying31 ptrE w4.heap.size 9 D rfl hown5 (by unfold maxLen; omega) _ _ _ rfl rfl (keyOf_int_mk Tryz.underlying3 hwk) (encM (some IB)) [] (ptrE_mk _) ?_; intro w6 hown6 hg6; obtain ⟨g6a, g6b⟩ := grown_cell hg6 (b := w.heap.size) (by first | omega | (simp; omega)) (by intro e; injection e with e; omega); obtain ⟨g6c, g6d⟩ := grown_cell hg6 (b := w.heap.size + 1) (by first | omega | (simp; omega)) (by intro e; injection e with e; omega))
   have hs6 := hg6.size
   have hB6 : Below w.heap.size w w6 := Below.grown HB5.out hg6 oM (fun j hj => by cases hj; omega)
   have d0 : w6.cell? ⟨w.heap.size + 1, 0, none⟩ = some (.slice none 0 0) := by rw [g6c]; exact x3
   have d1 : w6.cell? ⟨w.heap.size + 1, 1, none⟩ = some (.slice none 0 0) := by rw [g6c]; exact x4
   have d2 : w6.cell? ⟨w.heap.size + 1, 2, none⟩ = some (.map none) := by rw [g6c]; exact x5
   have hin6 := Hinn5.out.kept hg6 (by intro e; injection e with e; omega)
   have h36 : ∀ t : Nat, t < 8 → ∃ u, D.atKey (.int .i64 ((t : Int) + 1)) (.lit (.bool false)) = encM u ∧ AskR logs.length w6 u (G t) := fun t' ht' => by
    obtain ⟨u', e1, e2⟩ := H3.out t' ht'
    exact ⟨u', e1, e2.below (hB6)⟩
   have hA6 : AsksR logs.length w6 (some w4.heap.size) (askP G t ((k : Int) / 8) g.l.length) := AsksR.made hown6 HK.out ht h36 (AskR.made Hbd.out hin6 HKi.out Hri.out kl0 kl1 Hl.out oM)
   have hfin := hide (AsksR.set (AsksR.set (AsksR.set hA6 (HasC.of d0) (.slice fA first.length fc)) (HasC.set (.of d1) _) (.slice (some ⟨bl, off, none⟩) logs.length lc)) (HasC.set (HasC.set (.of d2) _) _) (.map (some w4.heap.size)))
   refine bodyPost_ret (v := .tuple #[.agg #[.slice fA first.length fc, .slice (some ⟨bl, off, none⟩) logs.length lc, .map (some w4.heap.size)], .int .i64 0]) (by simp [results, Tryz.results112, go_sem]; (try go_simp)) rfl ⟨w4.heap.size, rfl, ?_, by omega, ab0⟩
   with_reducible exact hfin.out
end Go.Proofs.YtnnmenmifphadaaGreatDoor
