/- Sets of steps: maps whose keys are steps. -/
import Derived.Test.YtnnmenmifphadaaGreatDoorU51
set_option linter.unusedSimpArgs false
set_option linter.unusedVariables false
set_option maxRecDepth 100000
set_option maxHeartbeats 40000000
namespace Go.Proofs.YtnnmenmifphadaaGreatDoor
open Go.RowKit Go.Maps Go.Sort
set_option maxRecDepth 100000
theorem lawS : Keyed Tryz.prog 146 := Keyed.of_law (deep_law_laid (m := 2) kR oM (of_decide_eq_true kR) kR (by rw [Tryz.underlying146]))
def inS (s : Nat × Nat) : Prop := s.1 ≤ 1000 ∧ s.2 ≤ 1000000
theorem key_stv {s : Nat × Nat} (h : inS s) : keyOf Tryz.prog 146 (stv s) = some (stk s) := by
 have hw1 : (Lit.int .i64 ((s.1 : Int) + 1)).wf = true := WalkArith.wf_i64 (by have := h.1; omega)
 have hw2 : (Lit.int .i64 (s.2 : Int)).wf = true := WalkArith.wf_i64 (by have := h.2; omega)
 have hk : keyOf Tryz.prog 146 (stv s) = some (.string (keyBytes [.int .i64 ((s.1 : Int) + 1), .int .i64 s.2])) := by
  have hc : Tryz.prog.cellsOf 146 = 2 := by kernel_rfl
  have hc1 : Tryz.prog.cellsOf 3 = 1 := by kernel_rfl
  have hkt : Tryz.prog.keyType 146 = true := by kernel_rfl
  obtain ⟨m, hm⟩ : ∃ m, Tryz.prog.types.size = m + 1 := ⟨_, (Nat.succ_pred_eq_of_pos (of_decide_eq_true kR)).symm⟩
  unfold keyOf
  simp only [Tryz.underlying146]
  rw [if_pos (by simp [hkt, Value.formed, stv, Tryz.underlying146, hc]), hm]
  unfold Program.keyLits
  simp only [Tryz.underlying146, stv, Value.cells]
  rw [if_pos (by simp [hc])]
  simp [Program.keyLits, hc1, Tryz.underlying3, hw1, hw2]
 unfold stk
 rw [hk]
 rfl
theorem stk_inj {s s' : Nat × Nat} (h : inS s) (h' : inS s') (e : stk s = stk s') : s = s' := by
 have q := lawS.inj (key_stv h) (by rw [e]; exact key_stv h')
 unfold stv at q
 injection q with q
 injection q with q
 injection q with q1 q2
 injection q1 with _ q1
 injection q2 with q2 _
 injection q2 with _ q2
 exact Prod.ext oM oM
theorem stk_lit {s : Nat × Nat} (h : inS s) : WideAt.IsKeyLit (stk s) := lawS.key (key_stv h)
def GoodS (D : DataW Unit) : Prop := ∃ es, D = .map es ∧ es.Pairwise (fun p q => p.1 ≠ q.1) ∧ ∀ p ∈ es, (∃ s, inS s ∧ p.1 = stk s) ∧ p.2 = .lit (.bool true)
noncomputable def hasB (D : DataW Unit) (s : Nat × Nat) : Bool := has D (stk s)
theorem goodS_empty : GoodS (.map []) := ⟨[], rfl, List.Pairwise.nil, fun p h => by cases h⟩
section
variable {D : DataW Unit}
theorem GoodS.tidy (h : GoodS D) : Tidy D := by
 obtain ⟨es, h1, h2, _⟩ := h
 exact ⟨es, h1, h2⟩
theorem GoodS.mem (h : GoodS D) {k : Lit} (hk : has D k = true) : (∃ s, inS s ∧ k = stk s) ∧ ∀ z, D.atKey k z = .lit (.bool true) := by
 obtain ⟨es, rfl, h1, h2⟩ := h
 rw [has_eq, List.any_eq_true] at hk
 obtain ⟨p, hp, hs⟩ := hk
 have e : p.1 = k := WideAt.sameKey_eq hs
 obtain ⟨⟨s, hs1, hs2⟩, h3⟩ := h2 p hp
 refine ⟨⟨s, hs1, by rw [← e, hs2]⟩, fun z => ?_⟩
 rw [← e, WideAt.atKey_mem z (by rw [hs2]; exact stk_lit hs1) h1 (d := p.2) hp, h3]
theorem GoodS.put (h : GoodS D) {s : Nat × Nat} (hs : inS s) : GoodS (D.put (stk s) (.lit (.bool true))) := by
 obtain ⟨es', e', hp'⟩ := h.tidy.put (stk_lit hs) (.lit (.bool true))
 obtain ⟨es, rfl, h1, h2⟩ := h
 refine ⟨es', e', hp', fun p hm => ?_⟩
 have e : es' = DataW.insert (stk s, .lit (.bool true)) (es.filter fun p => !p.1.sameKey (stk s)) := by
  have e2 : DataW.map (DataW.insert (stk s, .lit (.bool true)) (es.filter fun p => !p.1.sameKey (stk s))) = DataW.map es' := e'
  injection e2 with e2
  exact e2.symm
 rw [e] at hm
 rcases List.mem_cons.1 ((Go.WideShapes.insert_perm _ _).mem_iff.1 hm) with rfl | hm
 ·exact ⟨⟨s, hs, rfl⟩, rfl⟩
 ·exact h2 p (List.mem_filter.1 hm).1
theorem hasS_put (h : GoodS D) {s o : Nat × Nat} (hs : inS s) (ho : inS o) : hasS (D.put (stk s) (.lit (.bool true))) o ↔ hasS D o ∨ o = s := by
 unfold hasS
 by_cases e : o = s
 ·subst e
  exact ⟨fun _ => .inr rfl, fun _ => has_put_same h.tidy.isMap (stk_lit hs) _⟩
 ·rw [has_put_other (fun q => e (stk_inj ho hs q))]
  exact ⟨.inl, fun h => h.resolve_right e⟩
theorem goodS_size (h : GoodS D) {l : List (Nat × Nat)} (hl : ∀ s, inS s → hasS D s → s ∈ l) : Maps.size D ≤ l.length := by
 obtain ⟨es, rfl, hp, h2⟩ := h
 have hn : (es.map Prod.fst).Nodup := List.pairwise_map.2 hp
 have : DecidableEq Lit := fun a b => Classical.propDecidable _
 have q := nodup_len (l' := l.map stk) hn (fun k hk => by
  obtain ⟨p, hp', rfl⟩ := List.mem_map.1 hk
  obtain ⟨⟨s, hs, e⟩, _⟩ := h2 p hp'
  rw [e]
  refine List.mem_map_of_mem (hl s hs ?_)
  unfold hasS
  rw [has_eq, List.any_eq_true]
  exact ⟨p, hp', by rw [e]; exact WideAt.sameKey_self (stk_lit hs)⟩)
 simpa [Maps.size] using q
end
def SetM (b : Nat) (D : DataW Unit) (w : World) : Prop := w.ownsMap Tryz.prog 146 (plainElem Tryz.prog 4) b (Maps.size D) D ∧ GoodS D
theorem SetM.below {b : Nat} {D : DataW Unit} {w w' : World} (h : SetM b D w) (hb : Below w.heap.size w w') : SetM b D w' := ⟨h.1.kept (grown_of_below hb none) sM, h.2⟩
theorem SetM.grown {b : Nat} {D : DataW Unit} {w w' : World} {row : Option Nat} (h : SetM b D w) (hg : w.grownBy w' row) (hne : some b ≠ row) : SetM b D w' := ⟨h.1.kept hg hne, h.2⟩
theorem setM_made (w : World) : SetM w.heap.size (.map []) (w.alloc (.map #[] 0)) := ⟨World.ownsMap_made (H := Unit) w Tryz.prog 146 (plainElem Tryz.prog 4), goodS_empty⟩
theorem zero_bool (w : World) : (zeroValue 4).run Tryz.prog w = .ok (.bool false) w := by kernel_rfl
theorem SetM.look {b : Nat} {D : DataW Unit} {w : World} (h : SetM b D w) {s : Nat × Nat} (hs : inS s) : (Instr.lookup 126 (.map (some b)) (stv s) false).run Tryz.prog w = .ok (.bool (hasB D s)) w := by
 obtain ⟨v, ps, hrun, hv⟩ := h.1.lookup lawS Tryz.underlying126 (zero_bool w) (plainElem_bool Tryz.underlying4 false) (key_stv hs)
 rw [hrun]
 have e : v = .bool (hasB D s) := by
  unfold hasB
  cases hh : has D (stk s) with
  | true =>
   rw [(h.2.mem hh).2] at hv
   unfold plainElem at hv
   rw [Tryz.underlying4] at hv
   cases v <;> simp at hv
   rw [hv.1]
  | false =>
   rw [atKey_of_not_has hh] at hv
   unfold plainElem at hv
   rw [Tryz.underlying4] at hv
   cases v <;> simp at hv
   rw [hv.1]
 rw [e]
theorem clone_steps {b : Nat} {D : DataW Unit} (w : World) (h : SetM b D w) :
  Calls Tryz.prog 86 #[.map (some b)] w fun e w' => e = .returned (.map (some w.heap.size)) ∧ SetM w.heap.size D w' ∧ w.heap.size < w'.heap.size ∧ Below w.heap.size w w' := by
 have hq := fun (w : World) (r : Option Nat) => run_eql_map_nil (P := Tryz.prog) w _ _ _ r Tryz.underlying126
 obtain ⟨⟨es, clock, hb, F, hs, hD⟩, hG⟩ := h
 have hta := fun (W : World) (v : Value) => typeAssert_map W 126 20 _ _ v Tryz.underlying126
 go_enter Tryz.func86, Tryz.ntmps86
 go_wp2
 rw [extern_clone w 126 b es clock hb]
 (try simp only [Result.andThen])
 rw [Oper.upon_value]
 go_wp2
 go_ret
 exact ⟨rfl, ⟨⟨es, clock, (MapKept.heap_alloc w _).1, F, hs, hD⟩, hG⟩, by simp, (Below.refl _ _).alloc (Nat.le_refl _) _⟩
set_option maxRecDepth 100000
noncomputable def subB (A B : DataW Unit) : Bool := @decide (∀ s, inS s → hasS A s → hasS B s) (Classical.propDecidable _)
theorem subB_iff {A B : DataW Unit} : subB A B = true ↔ ∀ s, inS s → hasS A s → hasS B s := by unfold subB; exact @decide_eq_true_iff _ (Classical.propDecidable _)
theorem hasB_true {D : DataW Unit} {s : Nat × Nat} : hasB D s = true ↔ hasS D s := Iff.rfl
theorem met_step {D : DataW Unit} (h : GoodS D) {x : Value} {kl : Lit} {y : DataW Unit} (hkey : keyOf Tryz.prog 146 x = some kl) (hat : ∀ zd, D.atKey kl zd = y) : ∃ s, inS s ∧ kl = stk s ∧ x = .agg #[.int .i64 ((s.1 : Int) + 1), .int .i64 s.2] ∧ hasS D s := by
 have hh : has D kl = true := has_true_of_atKey hat
 obtain ⟨⟨s, hs, rfl⟩, _⟩ := h.mem hh
 exact ⟨s, hs, rfl, lawS.inj hkey (key_stv hs), hh⟩
theorem strike_iff {left : Lit → Bool} {s o : Nat × Nat} (hs : inS s) (ho : inS o) : (left (stk o) && !(stk o).sameKey (stk s)) = true ↔ left (stk o) = true ∧ o ≠ s := by
 by_cases e : o = s
 ·subst e
  rw [WideAt.sameKey_self (stk_lit hs)]
  simp
 ·rw [sameKey_ne (fun q => e (stk_inj ho hs q))]
  simp [e]
theorem ex_within (a b : Nat) (A B : DataW Unit) (w : World) (hA : SetM a A w) (hB : SetM b B w) :
  Calls Tryz.prog 128 #[.map (some a), .map (some b)] w (Ret (.bool (subB A B)) w) := by
 have HA := hide hA
 have HB := hide hB
 have hblt : b < w.heap.size := hB.1.lt
 clear hA hB
 go_enter Tryz.func128, Tryz.ntmps128
 go_wp2_with (first
  | (at_range; refine wpList_range_own _ rfl _ 126 rfl 146 4 lawS Tryz.underlying126 _ a (Maps.size A) _ rfl HA.out.1 ?_; intro w0 hrg0 hg0 hs0))
 go_frame
 have HB0 := hide (show Below w.heap.size w w0 from (Below.refl _ _).grown hg0 (Nat.le_refl _) (fun j hj => by cases hj))
 have Hrg0 := hide hrg0
 have Hm0 := hide (HB.out.grown hg0 sM)
 clear hs0 hg0 hrg0
 go_loopw [4] (fun v wr => ∃ (left : Lit → Bool) (cnt : Nat), v = .bool false ∧ Hid (wr.ranges Tryz.prog 146 (plainElem Tryz.prog 4) a w.heap.size (Maps.size A) A left cnt) ∧ Hid (∀ s, inS s → hasS A s → left (stk s) = true ∨ hasS B s) ∧ Hid (SetM b B wr) ∧ Hid (Below w.heap.size w wr)) (fun _ wr => wr.rangeLeft a w.heap.size)
 case atStart => exact ⟨_, _, rfl, Hrg0, hide (fun s _ h => .inl h), Hm0, HB0⟩
 case round =>
  obtain ⟨left, cnt, rfl, Hrg, Hleft, Hm, Hnx⟩ := hrel
  go_wp2_with (first
   | (at_next; refine wpList_next_ranges _ rfl _ rfl 146 lawS (plainElem Tryz.prog 4) (fun v : Value => v) (fun v : Value => v) (fun key kl hk => ⟨key, rfl⟩) (fun v y hv => ⟨v, rfl⟩) a w.heap.size (Maps.size A) _ _ _ rfl Hrg.out ?_ ?_))
  ·intro hc0 hl0
   have hr : subB A B = true := subB_iff.2 (fun s hs hh => (Hleft.out s hs hh).resolve_left (by rw [hl0]; simp))
   clear hl0
   go_wp2_with fail
   go_ret
   exact ⟨by rw [hr]; rfl, Hnx.out⟩
  ·intro x c kl y ys w2 cnt2 hkey hlk hv hat hrg2 hlt hg2 hs2 hen
   obtain ⟨s, hs, rfl, rfl, hsA⟩ := met_step HA.out.2 hkey hat
   have Hin := hide hs
   have HsA := hide hsA
   have hne : some b ≠ some w.heap.size := by intro e; injection e with e; omega
   have Hm2 := hide (Hm.out.grown hg2 hne)
   have hB2 : Below w.heap.size w w2 := Hnx.out.grown hg2 Hnx.out.size (fun j hj => by cases hj; exact Nat.le_refl _)
   have HB2 := hide hB2
   have Hrg2 := hide hrg2
   have hsz2 : w.heap.size ≤ w2.heap.size := hB2.size
   have hleft : ∀ W : World, W.ranges Tryz.prog 146 (plainElem Tryz.prog 4) a w.heap.size (Maps.size A) A (fun z => left z && !z.sameKey (stk s)) cnt2 → W.rangeLeft a w.heap.size < wr.rangeLeft a w.heap.size := fun W hW => by rw [hW.left_eq, Hrg.out.left_eq]; exact hlt
   have Hlt := hide hleft
   have hlook := (Hm2.out.below (Below.alloc (Below.refl _ _) (Nat.le_refl _) (.cells #[.int .i64 ((s.1 : Int) + 1), .int .i64 s.2] 146))).look hs
   unfold stv at hlook
   clear hs2 hg2 hrg2 hB2 hkey hv hat hlk hs hsA hleft hlt
   cases hb : hasB B s with
   | false =>
    rw [hb] at hlook
    have hr : subB A B = false := by
     cases h : subB A B with
     | false => rfl
     | true =>
      have q := hasB_true.2 (subB_iff.1 h s Hin.out HsA.out)
      rw [hb] at q
      cases q
    clear hb
    go_wp2_with fail
    go_ret
    exact ⟨by rw [hr]; rfl, HB2.out.alloc hsz2 _⟩
   | true =>
    rw [hb] at hlook
    have Hb := hide (hasB_true.1 hb)
    clear hb
    go_wp2_with fail
    have hrg3 := Hrg2.out.alloc (.cells #[.int .i64 ((s.1 : Int) + 1), .int .i64 s.2] 146)
    exact ⟨⟨_, cnt2, rfl, hide hrg3, hide (fun o ho hoA => by
     by_cases e : o = s
     ·subst e; exact .inr Hb.out
     ·exact (Hleft.out o ho hoA).imp_left (fun h => (strike_iff Hin.out ho).2 ⟨h, e⟩)), hide (Hm2.out.below (Below.alloc (Below.refl _ _) (Nat.le_refl _) _)), hide (HB2.out.alloc hsz2 _)⟩, Hlt.out _ hrg3⟩
end Go.Proofs.YtnnmenmifphadaaGreatDoor
