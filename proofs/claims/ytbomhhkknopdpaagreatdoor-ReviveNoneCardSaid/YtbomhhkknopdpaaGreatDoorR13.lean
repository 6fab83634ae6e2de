/- Package revive: bits, for at most eight blocks. -/
import Derived.Test.YtbomhhkknopdpaaGreatDoorR11
import Derived.Maps.Own
import Derived.Maps.OwnOps
import Derived.Maps.Views
import Derived.Maps.RangeWalk
import Derived.WalkSpells
import Derived.WalkLawsBesides
namespace Go.Proofs.YtbomhhkknopdpaaGreatDoor
set_option linter.unusedSimpArgs false
set_option linter.unusedVariables false
open Go.RowKit Go.Maps
theorem bits_2 (T C B : Int) (w : World) (hv : Valid T C B) (hs : Sizes w) (h1 : 2 < B) : Calls Tryz.prog 70 #[(.agg #[.int .i64 T, .int .i64 C, .int .i64 B]), .int .i64 2] w fun e w' => e = .returned (.tuple #[.int .i64 (fromL T C B 5), .int .i64 (2 ^ 2)]) ∧ Below w.heap.size w w' := by
  have hp := hs.pos
  have hb : B ≤ 64 := hv.1.2.2.2.2.2
  obtain ⟨X, hX⟩ : ∃ X, X = fromL T C B 5 := ⟨_, rfl⟩
  have x0 : 0 ≤ X ∧ X ≤ 10280 := by have := from_le T C B hv.1 5; rw [hX]; omega
  have e1 : atL T C B 5 2 0 = X := by
    unfold atL
    rw [if_pos ⟨by decide, h1⟩, hX, show sizeL 5 = 0 from rfl, Int.mul_zero, Int.add_zero, Int.add_zero]
  have E1 := hide e1
  rw [← hX]
  clear hX e1
  go_enter Tryz.func70, Tryz.ntmps70
  go_wp2_with (first
    | (go_at_call 47; refine (at_5 T C B _ _ _ hv (hs.below (by repeat' (first | with_reducible exact Below.refl _ _ | with_reducible assumption | with_reducible refine Below.alloc ?_ ?_ _ | with_reducible refine Below.setCell ?_ ?_ _ | with_reducible refine Below.drew ?_ | with_reducible refine below_drewN ?_ _ | with_reducible refine Below.trans ?_ (Below.mono (by with_reducible assumption) ?_) | omega | (simp <;> omega)))) (by decide) (by decide)).mono ?_; rintro e w1 ⟨rfl, hb1⟩; obtain ⟨hcc1, hff1⟩ := bcell hb1; have hs1 := hb1.size; (try simp at hs1); have hz1 : w.heap.size < w1.heap.size := (by omega); have hq1 : 0 < w1.heap.size := (by omega); rw [E1.out]))
  all_goals go_region
  all_goals go_wp2_with fail
  all_goals go_ret2
  all_goals exact ⟨rfl, (by repeat' (first | with_reducible exact Below.refl _ _ | with_reducible assumption | with_reducible refine Below.alloc ?_ ?_ _ | with_reducible refine Below.setCell ?_ ?_ _ | with_reducible refine Below.drew ?_ | with_reducible refine below_drewN ?_ _ | with_reducible refine Below.trans ?_ (Below.mono (by with_reducible assumption) ?_) | omega | (simp <;> omega)))⟩
theorem bits_3 (T C B : Int) (w : World) (hv : Valid T C B) (hs : Sizes w) (h1 : 3 < B) : Calls Tryz.prog 70 #[(.agg #[.int .i64 T, .int .i64 C, .int .i64 B]), .int .i64 3] w fun e w' => e = .returned (.tuple #[.int .i64 (fromL T C B 5), .int .i64 (2 ^ 3)]) ∧ Below w.heap.size w w' := by
  have hp := hs.pos
  have hb : B ≤ 64 := hv.1.2.2.2.2.2
  obtain ⟨X, hX⟩ : ∃ X, X = fromL T C B 5 := ⟨_, rfl⟩
  have x0 : 0 ≤ X ∧ X ≤ 10280 := by have := from_le T C B hv.1 5; rw [hX]; omega
  have e1 : atL T C B 5 3 0 = X := by
    unfold atL
    rw [if_pos ⟨by decide, h1⟩, hX, show sizeL 5 = 0 from rfl, Int.mul_zero, Int.add_zero, Int.add_zero]
  have E1 := hide e1
  rw [← hX]
  clear hX e1
  go_enter Tryz.func70, Tryz.ntmps70
  go_wp2_with (first
    | (go_at_call 47; refine (at_5 T C B _ _ _ hv (hs.below (by repeat' (first | with_reducible exact Below.refl _ _ | with_reducible assumption | with_reducible refine Below.alloc ?_ ?_ _ | with_reducible refine Below.setCell ?_ ?_ _ | with_reducible refine Below.drew ?_ | with_reducible refine below_drewN ?_ _ | with_reducible refine Below.trans ?_ (Below.mono (by with_reducible assumption) ?_) | omega | (simp <;> omega)))) (by decide) (by decide)).mono ?_; rintro e w1 ⟨rfl, hb1⟩; obtain ⟨hcc1, hff1⟩ := bcell hb1; have hs1 := hb1.size; (try simp at hs1); have hz1 : w.heap.size < w1.heap.size := (by omega); have hq1 : 0 < w1.heap.size := (by omega); rw [E1.out]))
  all_goals go_region
  all_goals go_wp2_with fail
  all_goals go_ret2
  all_goals exact ⟨rfl, (by repeat' (first | with_reducible exact Below.refl _ _ | with_reducible assumption | with_reducible refine Below.alloc ?_ ?_ _ | with_reducible refine Below.setCell ?_ ?_ _ | with_reducible refine Below.drew ?_ | with_reducible refine below_drewN ?_ _ | with_reducible refine Below.trans ?_ (Below.mono (by with_reducible assumption) ?_) | omega | (simp <;> omega)))⟩
theorem bits_4 (T C B : Int) (w : World) (hv : Valid T C B) (hs : Sizes w) (h1 : 4 < B) : Calls Tryz.prog 70 #[(.agg #[.int .i64 T, .int .i64 C, .int .i64 B]), .int .i64 4] w fun e w' => e = .returned (.tuple #[.int .i64 (fromL T C B 5), .int .i64 (2 ^ 4)]) ∧ Below w.heap.size w w' := by
  have hp := hs.pos
  have hb : B ≤ 64 := hv.1.2.2.2.2.2
  obtain ⟨X, hX⟩ : ∃ X, X = fromL T C B 5 := ⟨_, rfl⟩
  have x0 : 0 ≤ X ∧ X ≤ 10280 := by have := from_le T C B hv.1 5; rw [hX]; omega
  have e1 : atL T C B 5 4 0 = X := by
    unfold atL
    rw [if_pos ⟨by decide, h1⟩, hX, show sizeL 5 = 0 from rfl, Int.mul_zero, Int.add_zero, Int.add_zero]
  have E1 := hide e1
  rw [← hX]
  clear hX e1
  go_enter Tryz.func70, Tryz.ntmps70
  go_wp2_with (first
    | (go_at_call 47; refine (at_5 T C B _ _ _ hv (hs.below (by repeat' (first | with_reducible exact Below.refl _ _ | with_reducible assumption | with_reducible refine Below.alloc ?_ ?_ _ | with_reducible refine Below.setCell ?_ ?_ _ | with_reducible refine Below.drew ?_ | with_reducible refine below_drewN ?_ _ | with_reducible refine Below.trans ?_ (Below.mono (by with_reducible assumption) ?_) | omega | (simp <;> omega)))) (by decide) (by decide)).mono ?_; rintro e w1 ⟨rfl, hb1⟩; obtain ⟨hcc1, hff1⟩ := bcell hb1; have hs1 := hb1.size; (try simp at hs1); have hz1 : w.heap.size < w1.heap.size := (by omega); have hq1 : 0 < w1.heap.size := (by omega); rw [E1.out]))
  all_goals go_region
  all_goals go_wp2_with fail
  all_goals go_ret2
  all_goals exact ⟨rfl, (by repeat' (first | with_reducible exact Below.refl _ _ | with_reducible assumption | with_reducible refine Below.alloc ?_ ?_ _ | with_reducible refine Below.setCell ?_ ?_ _ | with_reducible refine Below.drew ?_ | with_reducible refine below_drewN ?_ _ | with_reducible refine Below.trans ?_ (Below.mono (by with_reducible assumption) ?_) | omega | (simp <;> omega)))⟩
theorem bits_5 (T C B : Int) (w : World) (hv : Valid T C B) (hs : Sizes w) (h1 : 5 < B) : Calls Tryz.prog 70 #[(.agg #[.int .i64 T, .int .i64 C, .int .i64 B]), .int .i64 5] w fun e w' => e = .returned (.tuple #[.int .i64 (fromL T C B 5), .int .i64 (2 ^ 5)]) ∧ Below w.heap.size w w' := by
  have hp := hs.pos
  have hb : B ≤ 64 := hv.1.2.2.2.2.2
  obtain ⟨X, hX⟩ : ∃ X, X = fromL T C B 5 := ⟨_, rfl⟩
  have x0 : 0 ≤ X ∧ X ≤ 10280 := by have := from_le T C B hv.1 5; rw [hX]; omega
  have e1 : atL T C B 5 5 0 = X := by
    unfold atL
    rw [if_pos ⟨by decide, h1⟩, hX, show sizeL 5 = 0 from rfl, Int.mul_zero, Int.add_zero, Int.add_zero]
  have E1 := hide e1
  rw [← hX]
  clear hX e1
  go_enter Tryz.func70, Tryz.ntmps70
  go_wp2_with (first
    | (go_at_call 47; refine (at_5 T C B _ _ _ hv (hs.below (by repeat' (first | with_reducible exact Below.refl _ _ | with_reducible assumption | with_reducible refine Below.alloc ?_ ?_ _ | with_reducible refine Below.setCell ?_ ?_ _ | with_reducible refine Below.drew ?_ | with_reducible refine below_drewN ?_ _ | with_reducible refine Below.trans ?_ (Below.mono (by with_reducible assumption) ?_) | omega | (simp <;> omega)))) (by decide) (by decide)).mono ?_; rintro e w1 ⟨rfl, hb1⟩; obtain ⟨hcc1, hff1⟩ := bcell hb1; have hs1 := hb1.size; (try simp at hs1); have hz1 : w.heap.size < w1.heap.size := (by omega); have hq1 : 0 < w1.heap.size := (by omega); rw [E1.out]))
  all_goals go_region
  all_goals go_wp2_with fail
  all_goals go_ret2
  all_goals exact ⟨rfl, (by repeat' (first | with_reducible exact Below.refl _ _ | with_reducible assumption | with_reducible refine Below.alloc ?_ ?_ _ | with_reducible refine Below.setCell ?_ ?_ _ | with_reducible refine Below.drew ?_ | with_reducible refine below_drewN ?_ _ | with_reducible refine Below.trans ?_ (Below.mono (by with_reducible assumption) ?_) | omega | (simp <;> omega)))⟩
theorem bits_6 (T C B : Int) (w : World) (hv : Valid T C B) (hs : Sizes w) (h1 : 6 < B) : Calls Tryz.prog 70 #[(.agg #[.int .i64 T, .int .i64 C, .int .i64 B]), .int .i64 6] w fun e w' => e = .returned (.tuple #[.int .i64 (fromL T C B 5), .int .i64 (2 ^ 6)]) ∧ Below w.heap.size w w' := by
  have hp := hs.pos
  have hb : B ≤ 64 := hv.1.2.2.2.2.2
  obtain ⟨X, hX⟩ : ∃ X, X = fromL T C B 5 := ⟨_, rfl⟩
  have x0 : 0 ≤ X ∧ X ≤ 10280 := by have := from_le T C B hv.1 5; rw [hX]; omega
  have e1 : atL T C B 5 6 0 = X := by
    unfold atL
    rw [if_pos ⟨by decide, h1⟩, hX, show sizeL 5 = 0 from rfl, Int.mul_zero, Int.add_zero, Int.add_zero]
  have E1 := hide e1
  rw [← hX]
  clear hX e1
  go_enter Tryz.func70, Tryz.ntmps70
  go_wp2_with (first
    | (go_at_call 47; refine (at_5 T C B _ _ _ hv (hs.below (by repeat' (first | with_reducible exact Below.refl _ _ | with_reducible assumption | with_reducible refine Below.alloc ?_ ?_ _ | with_reducible refine Below.setCell ?_ ?_ _ | with_reducible refine Below.drew ?_ | with_reducible refine below_drewN ?_ _ | with_reducible refine Below.trans ?_ (Below.mono (by with_reducible assumption) ?_) | omega | (simp <;> omega)))) (by decide) (by decide)).mono ?_; rintro e w1 ⟨rfl, hb1⟩; obtain ⟨hcc1, hff1⟩ := bcell hb1; have hs1 := hb1.size; (try simp at hs1); have hz1 : w.heap.size < w1.heap.size := (by omega); have hq1 : 0 < w1.heap.size := (by omega); rw [E1.out]))
  all_goals go_region
  all_goals go_wp2_with fail
  all_goals go_ret2
  all_goals exact ⟨rfl, (by repeat' (first | with_reducible exact Below.refl _ _ | with_reducible assumption | with_reducible refine Below.alloc ?_ ?_ _ | with_reducible refine Below.setCell ?_ ?_ _ | with_reducible refine Below.drew ?_ | with_reducible refine below_drewN ?_ _ | with_reducible refine Below.trans ?_ (Below.mono (by with_reducible assumption) ?_) | omega | (simp <;> omega)))⟩
theorem bits_7 (T C B : Int) (w : World) (hv : Valid T C B) (hs : Sizes w) (h1 : 7 < B) : Calls Tryz.prog 70 #[(.agg #[.int .i64 T, .int .i64 C, .int .i64 B]), .int .i64 7] w fun e w' => e = .returned (.tuple #[.int .i64 (fromL T C B 5), .int .i64 (2 ^ 7)]) ∧ Below w.heap.size w w' := by
  have hp := hs.pos
  have hb : B ≤ 64 := hv.1.2.2.2.2.2
  obtain ⟨X, hX⟩ : ∃ X, X = fromL T C B 5 := ⟨_, rfl⟩
  have x0 : 0 ≤ X ∧ X ≤ 10280 := by have := from_le T C B hv.1 5; rw [hX]; omega
  have e1 : atL T C B 5 7 0 = X := by
    unfold atL
    rw [if_pos ⟨by decide, h1⟩, hX, show sizeL 5 = 0 from rfl, Int.mul_zero, Int.add_zero, Int.add_zero]
  have E1 := hide e1
  rw [← hX]
  clear hX e1
  go_enter Tryz.func70, Tryz.ntmps70
  go_wp2_with (first
    | (go_at_call 47; refine (at_5 T C B _ _ _ hv (hs.below (by repeat' (first | with_reducible exact Below.refl _ _ | with_reducible assumption | with_reducible refine Below.alloc ?_ ?_ _ | with_reducible refine Below.setCell ?_ ?_ _ | with_reducible refine Below.drew ?_ | with_reducible refine below_drewN ?_ _ | with_reducible refine Below.trans ?_ (Below.mono (by with_reducible assumption) ?_) | omega | (simp <;> omega)))) (by decide) (by decide)).mono ?_; rintro e w1 ⟨rfl, hb1⟩; obtain ⟨hcc1, hff1⟩ := bcell hb1; have hs1 := hb1.size; (try simp at hs1); have hz1 : w.heap.size < w1.heap.size := (by omega); have hq1 : 0 < w1.heap.size := (by omega); rw [E1.out]))
  all_goals go_region
  all_goals go_wp2_with fail
  all_goals go_ret2
  all_goals exact ⟨rfl, (by repeat' (first | with_reducible exact Below.refl _ _ | with_reducible assumption | with_reducible refine Below.alloc ?_ ?_ _ | with_reducible refine Below.setCell ?_ ?_ _ | with_reducible refine Below.drew ?_ | with_reducible refine below_drewN ?_ _ | with_reducible refine Below.trans ?_ (Below.mono (by with_reducible assumption) ?_) | omega | (simp <;> omega)))⟩
def pw (k : Nat) : Int := [1, 2, 4, 8, 16, 32, 64, 128].getD k 0
def mk (k : Nat) : Int := [0, 1, 3, 7, 15, 31, 63, 127, 255].getD k 0
theorem bits_any (T C B : Int) (k : Nat) (w : World) (hv : Valid T C B) (hs : Sizes w) (h1 : (k : Int) < B) (h8 : k < 8) : Calls Tryz.prog 70 #[(.agg #[.int .i64 T, .int .i64 C, .int .i64 B]), .int .i64 k] w fun e w' => e = .returned (.tuple #[.int .i64 (fromL T C B 5), .int .i64 (pw k)]) ∧ Below w.heap.size w w' := by
  match k, h8, h1 with
  | 0, _, h1 => exact bits_0 T C B w hv hs h1
  | 1, _, h1 => exact bits_1 T C B w hv hs h1
  | 2, _, h1 => exact bits_2 T C B w hv hs h1
  | 3, _, h1 => exact bits_3 T C B w hv hs h1
  | 4, _, h1 => exact bits_4 T C B w hv hs h1
  | 5, _, h1 => exact bits_5 T C B w hv hs h1
  | 6, _, h1 => exact bits_6 T C B w hv hs h1
  | 7, _, h1 => exact bits_7 T C B w hv hs h1
theorem or_mk (k : Nat) (h8 : k < 8) : bits .or .i64 (mk k) (pw k) = mk (k + 1) := by
  match k, h8 with
  | 0, _ => decide
  | 1, _ => decide
  | 2, _ => decide
  | 3, _ => decide
  | 4, _ => decide
  | 5, _ => decide
  | 6, _ => decide
  | 7, _ => decide
theorem mk_wf (k : Nat) : (Lit.int .i64 (mk k)).wf = true := by
  match k with
  | 0 | 1 | 2 | 3 | 4 | 5 | 6 | 7 | 8 => decide
  | k + 9 =>
    have h : mk (k + 9) = 0 := rfl
    rw [h]
    decide
def bitsOK (B : Nat) (x : W3) : Bool := if B = 0 then true else (bits .andNot .i64 x.v (mk B) == 0) && x.f == 0
def bitsL (T C B : Int) (ws : List W3) : Bool := bitsOK B.toNat (ws.getD (fromL T C B 5).toNat z3)
theorem law_loc2 : Keyed Tryz.prog 58 := int_keyed Tryz.underlying58
theorem zero_i64 (w : World) : (zeroValue 2).run Tryz.prog w = .ok (.int .i64 0) w := by kernel_rfl
theorem lit_inj {a b : Int} (h : (DataW.lit (.int .i64 a) : DataW Unit) = .lit (.int .i64 b)) : a = b := by
  injection h with h
  injection h
/-- The map of masks after k blocks. -/
def MapB (w : World) (b : Nat) (X : Int) (k : Nat) : Prop := ∃ (n : Nat) (D : DataW Unit), n ≤ k ∧ w.ownsMap Tryz.prog 58 (plainElem Tryz.prog 2) b n D ∧ IsMap D ∧ D.atKey (.int .i64 X) (.lit (.int .i64 0)) = .lit (.int .i64 (mk k)) ∧ (∀ kl, has D kl = true → kl = .int .i64 X ∧ 0 < k) ∧ (0 < k → has D (.int .i64 X) = true)
theorem MapB.made (w : World) (X : Int) : MapB (w.alloc (.map #[] 0)) w.heap.size X 0 := by
  refine ⟨0, .map [], Nat.le_refl _, World.ownsMap_made _ _ _ _, isMap_empty, rfl, ?_, ?_⟩
  · intro kl h
    simp [has] at h
  · intro h
    omega
theorem MapB.made_at {w : World} {b : Nat} (hb : b = w.heap.size) (X : Int) : MapB (w.alloc (.map #[] 0)) b X 0 := by rw [hb]; exact MapB.made w X
theorem MapB.below {w w' : World} {b k : Nat} {X : Int} (h : MapB w b X k) (hb : Below w.heap.size w w') : MapB w' b X k := by
  obtain ⟨n, D, h1, h2, h3⟩ := h
  exact ⟨n, D, h1, h2.kept (grown_of_below hb none) (by simp), h3⟩
theorem MapB.look {w : World} {b k : Nat} {X : Int} (h : MapB w b X k) (wz : (Lit.int .i64 X).wf = true) : (Instr.lookup 141 (.map (some b)) (.int .i64 X) false).run Tryz.prog w = .ok (.int .i64 (mk k)) w := by
  obtain ⟨n, D, h1, h2, h3, h4, h5⟩ := h
  obtain ⟨c, hrun, hat, _⟩ := h2.lookup_int law_loc2 Tryz.underlying141 Tryz.underlying2 (zero_i64 w) (keyOf_int_mk Tryz.underlying58 wz)
  rw [hrun, lit_inj (hat.symm.trans h4)]
theorem MapB.put {D : DataW Unit} {X : Int} {k : Nat} (h3 : IsMap D) (h5 : ∀ kl, has D kl = true → kl = .int .i64 X ∧ 0 < k) : IsMap (D.put (.int .i64 X) (.lit (.int .i64 (mk (k + 1))))) ∧ (D.put (.int .i64 X) (.lit (.int .i64 (mk (k + 1))))).atKey (.int .i64 X) (.lit (.int .i64 0)) = .lit (.int .i64 (mk (k + 1))) ∧ (∀ kl, has (D.put (.int .i64 X) (.lit (.int .i64 (mk (k + 1))))) kl = true → kl = .int .i64 X ∧ 0 < k + 1) ∧ (0 < k + 1 → has (D.put (.int .i64 X) (.lit (.int .i64 (mk (k + 1))))) (.int .i64 X) = true) := by
  refine ⟨h3.put _ _, atKey_put_same h3 (by trivial) _ _, fun kl hk => ?_, fun _ => has_put_same h3 (by trivial) _⟩
  by_cases e : kl = .int .i64 X
  · exact ⟨e, Nat.succ_pos _⟩
  · rw [has_put_other e] at hk
    exact absurd (h5 kl hk).1 e
set_option maxHeartbeats 4000000 in
set_option maxRecDepth 100000 in
theorem vbits_ok (T C B : Int) (b n cap : Nat) (ws : List W3) (w : World) (hv : Valid T C B) (hs : Sizes w) (hM : Mem b ws w) (hl : ws.length = n) (hnm : n ≤ 1000000) (hn : fromL T C B 7 = (n : Int)) (hB8 : B ≤ 8) :
    Calls Tryz.prog 44 #[(.agg #[.int .i64 T, .int .i64 C, .int .i64 B]), .slice (some ⟨b, 0, none⟩) n cap] w fun e w' => e = .returned (.bool (bitsL T C B ws)) ∧ Below w.heap.size w w' := by
  have hp := hs.pos
  have hb := hM.2.2
  obtain ⟨f1, f2, -, -, f5, f6⟩ := hv.1
  obtain ⟨K, rfl⟩ : ∃ K : Nat, B = (K : Int) := ⟨B.toNat, by omega⟩
  obtain ⟨X, hX⟩ : ∃ X : Nat, fromL T C K 5 = (X : Int) := ⟨(fromL T C K 5).toNat, by have := (from_le T C K hv.1 5).1; omega⟩
  have hXn : X ≤ n := by
    have e7 : fromL T C K 7 = fromL T C K 6 + longL T C K 6 := rfl
    have e6 : fromL T C K 6 = fromL T C K 5 + longL T C K 5 := rfl
    have l5 := (long_le T C K hv.1 5).1
    have l6 := (long_le T C K hv.1 6).1
    omega
  have hXlt : 0 < K → X < n := fun h => by
    have e7 : fromL T C K 7 = fromL T C K 6 + longL T C K 6 := rfl
    have e6 : fromL T C K 6 = fromL T C K 5 + longL T C K 5 := rfl
    have l5 := (long_le T C K hv.1 5).1
    have l6 : longL T C K 6 = 32 * (K : Int) := rfl
    omega
  have wX : (Lit.int .i64 (X : Int)).wf = true := WalkArith.wf_i64 (by omega)
  have hbit := fun (k : Nat) (W : World) hs' (h1 : k < K) => bits_any T C K k W hv hs' (by omega) (by omega)
  rw [hX] at hbit
  have Hbit := hide hbit
  have hR : bitsL T C K ws = bitsOK K (ws.getD X z3) := by unfold bitsL; rw [hX]; rfl
  obtain ⟨R, hR0⟩ : ∃ R, R = bitsL T C K ws := ⟨_, rfl⟩
  rw [← hR0]
  rw [← hR0] at hR
  have HR := hide hR
  obtain ⟨w1, hw1⟩ : ∃ w1 : World, w1 = w.alloc (.cells #[.int .i64 T, .int .i64 C, .int .i64 K] 31) := ⟨_, rfl⟩
  have e0 : w1.cell? ⟨w.heap.size, 0, none⟩ = some (.int .i64 T) := by rw [hw1]; go_simp
  have e1 : w1.cell? ⟨w.heap.size, 1, none⟩ = some (.int .i64 C) := by rw [hw1]; go_simp
  have e2 : w1.cell? ⟨w.heap.size, 2, none⟩ = some (.int .i64 K) := by rw [hw1]; go_simp
  have hB1 : Below w.heap.size w w1 := by rw [hw1]; exact (by repeat' (first | with_reducible exact Below.refl _ _ | with_reducible assumption | with_reducible refine Below.alloc ?_ ?_ _ | with_reducible refine Below.setCell ?_ ?_ _ | with_reducible refine Below.drew ?_ | with_reducible refine below_drewN ?_ _ | with_reducible refine Below.trans ?_ (Below.mono (by with_reducible assumption) ?_) | omega | (simp <;> omega)))
  have HS := hide (hs.below hB1)
  have hz1 : w.heap.size < w1.heap.size := by rw [hw1]; simp
  have hmb : w.heap.size + 1 = w1.heap.size := by rw [hw1]; simp
  have Hmb := hide hmb
  have hle1 : w.heap.size + 1 ≤ w1.heap.size := by omega
  have Hw1 := hide hw1
  have HM1 := hide (hM.grow hB1)
  have Hl := hide hl
  have hmm := @run_makeMap Tryz.prog
  clear hbit hX hR hR0 hw1 hM hl hn hmb
  go_enter Tryz.func44, Tryz.ntmps44
  go_wp2_with fail
  rw [← Hw1.out]
  go_loopw [14] (fun i wr => ∃ k : Nat, i = .int .i64 k ∧ k ≤ K ∧ MapB wr (w.heap.size + 1) X k ∧ Below (w.heap.size + 1) w1 wr) (fun i _ => K - (intOf i).toNat)
  case atStart => exact ⟨0, by go_num, by omega, MapB.made_at Hmb.out _, (by repeat' (first | with_reducible exact Below.refl _ _ | with_reducible assumption | with_reducible refine Below.alloc ?_ ?_ _ | with_reducible refine Below.setCell ?_ ?_ _ | with_reducible refine Below.drew ?_ | with_reducible refine below_drewN ?_ _ | with_reducible refine Below.trans ?_ (Below.mono (by with_reducible assumption) ?_) | omega | (simp <;> omega)))⟩
  case round =>
    obtain ⟨k, rfl, hk, hMap, hB⟩ := hrel
    have hsz := hB.size
    have f0 := (hB.cell (p := ⟨w.heap.size, 0, none⟩) (Nat.lt_succ_self _)).trans e0
    have f1 := (hB.cell (p := ⟨w.heap.size, 1, none⟩) (Nat.lt_succ_self _)).trans e1
    have f2 := (hB.cell (p := ⟨w.heap.size, 2, none⟩) (Nat.lt_succ_self _)).trans e2
    have HSr := hide (HS.out.below' (by omega) hB)
    have HMr := hide (HM1.out.below hB (by omega))
    have HMap := hide hMap
    clear hMap
    by_cases hlt : k < K
    · have hor := or_mk k (by omega)
      obtain ⟨m0, hm0⟩ : ∃ m, m = mk k := ⟨_, rfl⟩
      obtain ⟨p0, hp0⟩ : ∃ m, m = pw k := ⟨_, rfl⟩
      obtain ⟨m1, hm1⟩ : ∃ m, m = mk (k + 1) := ⟨_, rfl⟩
      rw [← hm0, ← hp0, ← hm1] at hor
      have hbk := fun W hs' => Hbit.out k W hs' hlt
      simp only [← hp0] at hbk
      have Hbk := hide hbk
      have Hm0 := hide hm0
      have Hm1 := hide hm1
      clear hbk hm0 hp0 hm1
      go_wp2_with (first
        | (go_at_call 70; refine (Hbk.out _ (HSr.out.below (by repeat' (first | with_reducible exact Below.refl _ _ | with_reducible assumption | with_reducible refine Below.alloc ?_ ?_ _ | with_reducible refine Below.setCell ?_ ?_ _ | with_reducible refine Below.drew ?_ | with_reducible refine below_drewN ?_ _ | with_reducible refine Below.trans ?_ (Below.mono (by with_reducible assumption) ?_) | omega | (simp <;> omega))))).mono ?_; rintro e' w5 ⟨rfl, hb5⟩; obtain ⟨hcc5, hff5⟩ := bcell hb5; have hs5 := hb5.size; (try simp at hs5); have HMap5 : Hid (MapB w5 (w.heap.size + 1) X k) := hide (HMap.out.below hb5); have hlook := HMap5.out.look wX; rw [← Hm0.out] at hlook)
        | (at_mapUpdate; obtain ⟨nm, Dm, hnm2, hownm, him, hatm, hkm, hhm⟩ := HMap5.out; have Hhm := hide (MapB.put (k := k) him hkm); clear hkm hhm hatm him; refine wpList_mapUpdate_own _ rfl _ _ _ 141 rfl 58 2 law_loc2 Tryz.underlying141 _ (w.heap.size + 1) nm Dm rfl hownm (by unfold maxLen; omega) _ _ (.int .i64 X) rfl rfl (keyOf_int_mk Tryz.underlying58 wX) (.lit (.int .i64 m1)) [] (plainElem_int Tryz.underlying2 (by rw [Hm1.out]; exact mk_wf _)) ?_; intro w6 hown6 hgrow6))
      have hB6 : Below (w.heap.size + 1) w1 w6 := by
        have h5 : Below (w.heap.size + 1) w1 w5 := (by repeat' (first | with_reducible exact Below.refl _ _ | with_reducible assumption | with_reducible refine Below.alloc ?_ ?_ _ | with_reducible refine Below.setCell ?_ ?_ _ | with_reducible refine Below.drew ?_ | with_reducible refine below_drewN ?_ _ | with_reducible refine Below.trans ?_ (Below.mono (by with_reducible assumption) ?_) | omega | (simp <;> omega)))
        exact h5.grown hgrow6 (by omega) (fun j hj => by cases hj; exact Nat.le_refl _)
      have h6 := Hhm.out
      rw [← Hm1.out] at h6
      exact ⟨⟨k + 1, by go_num, by omega, ⟨nm + 1, _, by omega, hown6, by rw [← Hm1.out]; exact h6⟩, hB6⟩, by simp [intOf]; omega⟩
    · obtain rfl : K = k := by omega
      obtain ⟨wo, rfl⟩ : ∃ wo : World, wo = wr := ⟨_, rfl⟩
      obtain ⟨nm, Dm, hnm2, hownm, him, hatm, hkm, hhm⟩ := HMap.out
      have hwo1 : w.heap.size + 1 ≤ wo.heap.size := by omega
      have Hatm := hide hatm
      have Hkm := hide hkm
      have Hhm := hide hhm
      clear hatm hkm hhm him f0 f1 f2 HSr HMr hlt hk
      go_wp2_with (first
        | (at_range; refine wpList_range_own _ rfl _ 141 rfl 58 2 law_loc2 Tryz.underlying141 _ (w.heap.size + 1) nm Dm rfl hownm ?_; intro w7 hrg7 hg7 hs7))
      go_frame
      have hB7 : Below (w.heap.size + 1) w1 w7 := hB.grown hg7 (by omega) (fun j hj => by cases hj)
      have hs71 : w1.heap.size ≤ w7.heap.size := hB7.size
      have Hrg7 := hide hrg7
      clear hrg7 hg7
      go_loopw [9] (fun _ wr => ∃ (left : Lit → Bool) (cnt : Nat), wr.ranges Tryz.prog 58 (plainElem Tryz.prog 2) (w.heap.size + 1) wo.heap.size nm Dm left cnt ∧ (∀ kl, left kl = true → has Dm kl = true) ∧ (left (.int .i64 X) = true ∨ R = true) ∧ Below (w.heap.size + 1) w1 wr ∧ wo.heap.size < wr.heap.size) (fun _ wr => wr.rangeLeft (w.heap.size + 1) wo.heap.size)
      case atStart =>
        refine ⟨_, _, Hrg7.out, fun kl h => h, ?_, hB7, by omega⟩
        by_cases hK : 0 < K
        · exact Or.inl (Hhm.out hK)
        · right
          rw [HR.out]
          unfold bitsOK
          rw [if_pos (by omega)]
      case round =>
        clear hB hsz
        obtain ⟨left, cnt, hrg, hsub, hor, hB, hlt7⟩ := hrel
        have hsz := hB.size
        have Hsub := hide hsub
        have Hor := hide hor
        have Hrg := hide hrg
        clear hsub hor
        go_wp2_with (first
          | (at_next; refine wpList_next_ranges_ii _ rfl _ rfl 58 2 .i64 .i64 law_loc2 Tryz.underlying58 Tryz.underlying2 (w.heap.size + 1) wo.heap.size nm _ _ _ rfl hrg ?_ ?_))
        · intro _ hl0
          have hRt : R = true := by
            rcases Hor.out with h | h
            · rw [hl0] at h; cases h
            · exact h
          have HRt := hide hRt
          clear hRt hl0
          go_wp2_with fail
          go_ret
          exact ⟨by rw [HRt.out]; rfl, hB1.trans (hB.mono (by omega))⟩
        · intro x c w8 cnt8 hwx hwc hlx hat hrg8 hlt8 hg8 hs8 hen
          obtain ⟨hxe, hK0⟩ := Hkm.out _ (Hsub.out _ hlx)
          injection hxe with _ hxe
          subst hxe
          have hce : c = mk K := lit_inj ((hat (.lit (.int .i64 0))).symm.trans Hatm.out)
          have hXn' := hXlt hK0
          obtain ⟨m, hm⟩ : ∃ m, m = mk K := ⟨_, rfl⟩
          rw [← hm] at hce
          subst hce
          have hB8' : Below (w.heap.size + 1) w1 w8 := hB.grown hg8 (by omega) (fun j hj => by cases hj; omega)
          have HM8 := hide (HM1.out.below hB8' (by omega))
          obtain ⟨y, hy⟩ : ∃ y, ws[X]? = some y := ⟨_, List.getElem?_eq_getElem (by rw [Hl.out]; omega)⟩
          have hy0 : ws.getD X z3 = y := by rw [List.getD_eq_getElem?_getD, hy]; rfl
          have y0 := HM8.out.w0 hy
          have y1 := HM8.out.w1 hy
          have y2 := HM8.out.w2 hy
          have hRy := HR.out
          rw [hy0] at hRy
          unfold bitsOK at hRy
          rw [if_neg (by omega), ← hm] at hRy
          have HRy := hide hRy
          have hXi : (X : Int) < (n : Int) := by omega
          have hX0 : (0 : Int) ≤ (X : Int) := by omega
          have hv8 : b < w8.heap.size := by omega
          have Hrg8 := hide hrg8
          have Hlt8 := hide hlt8
          clear hRy hy hy0 hat hlx hwx hwc hm hrg8 hlt8 hrg
          have hBw8 : Below w.heap.size w w8 := hB1.trans (hB8'.mono (by omega))
          cases hq1 : (bits .andNot .i64 y.v c != 0) with
          | true =>
            have hf : R = false := by
              have h : (bits .andNot .i64 y.v c == 0) = false := by simpa using hq1
              rw [HRy.out, h]; rfl
            have Hf := hide hf
            clear hf
            go_wp2_with fail
            go_ret
            exact ⟨by rw [Hf.out]; rfl, hBw8⟩
          | false =>
            have h : (bits .andNot .i64 y.v c == 0) = true := by simpa using hq1
            cases hq2 : (y.f != 0) with
            | true =>
              have hf : R = false := by
                have h2 : (y.f == 0) = false := by simpa using hq2
                rw [HRy.out, h, h2]; rfl
              have Hf := hide hf
              clear hf h
              go_wp2_with fail
              go_ret
              exact ⟨by rw [Hf.out]; rfl, hBw8⟩
            | false =>
              have hf : R = true := by
                have h2 : (y.f == 0) = true := by simpa using hq2
                rw [HRy.out, h, h2]; rfl
              have Hf := hide hf
              clear hf h
              go_wp2_with fail
              exact ⟨⟨_, cnt8, Hrg8.out, fun kl hkl => Hsub.out kl (by simp only [Bool.and_eq_true] at hkl; exact hkl.1), Or.inr Hf.out, hB8', by omega⟩, by rw [Hrg8.out.left_eq, Hrg.out.left_eq]; exact Hlt8.out⟩
end Go.Proofs.YtbomhhkknopdpaaGreatDoor
