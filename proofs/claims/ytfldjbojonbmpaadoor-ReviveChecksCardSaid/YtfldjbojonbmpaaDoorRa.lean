/- The law's alike and the reference's single words. -/
import Derived.Test.YtfldjbojonbmpaaDoorD3
import Derived.Test.YtfldjbojonbmpaaDoorBx
import Derived.Deep.RegionHeld3
namespace Go.Proofs.YtfldjbojonbmpaaDoor
set_option linter.unusedSimpArgs false
set_option linter.unusedVariables false
open Go.RowKit
set_option maxRecDepth 100000 in
theorem alike_same (a b n ca cb : Nat) (l : List W3) (w : World) (ha : Mem a l w) (hb : Mem b l w) (hl : l.length = n) (hnm : n ≤ 1000000) :
    Calls Tryd.prog 12 #[.slice (some ⟨a, 0, none⟩) n ca, .slice (some ⟨b, 0, none⟩) n cb] w fun e w' => e = .returned (.bool true) ∧ Below w.heap.size w w' := by
  have Ha := hide ha
  have Hb := hide hb
  have Hl := hide hl
  have hnn : ¬ ((n : Int) ≠ (n : Int)) := by omega
  clear ha hb hl
  go_enter Tryd.func12, Tryd.ntmps12
  go_wp2_with fail
  go_loopw [13] (fun i wr => ∃ k : Nat, i = .int .i64 k ∧ k ≤ n ∧ Below w.heap.size w wr) (fun i _ => n - (intOf i).toNat)
  case atStart => exact ⟨0, rfl, by omega, (by repeat' (first | with_reducible exact Below.refl _ _ | with_reducible assumption | with_reducible refine Below.alloc ?_ ?_ _ | with_reducible refine Below.setCell ?_ ?_ _ | with_reducible refine Below.drew ?_ | with_reducible refine below_drewN ?_ _ | with_reducible refine Below.trans ?_ (Below.mono (by with_reducible assumption) ?_) | omega | (simp <;> omega)))⟩
  case round =>
    obtain ⟨k, rfl, hk, hB⟩ := hrel
    have hsz := hB.size
    by_cases hlt : k < n
    · obtain ⟨x, hx⟩ : ∃ x, l[k]? = some x := ⟨_, List.getElem?_eq_getElem (by rw [Hl.out]; omega)⟩
      have hMa := Ha.out.grow hB
      have hMb := Hb.out.grow hB
      have a0 := hMa.w0 hx
      have a1 := hMa.w1 hx
      have a2 := hMa.w2 hx
      have b0 := hMb.w0 hx
      have b1 := hMb.w1 hx
      have b2 := hMb.w2 hx
      have hne := neqWord x x
      rw [show eq3 x x = true from (eq3_iff x x).2 rfl] at hne
      have hk0 : (0 : Int) ≤ (k : Int) := by omega
      have hk1 : (k : Int) < (n : Int) := by omega
      clear hMa hMb hx
      go_wp2_with fail
      go_region_held3 (fun w' => w'.cell? ⟨a, k * 3, none⟩ = some (.int .i64 x.v) ∧ w'.cell? ⟨a, k * 3 + 1, none⟩ = some (.int .u32 x.r) ∧ w'.cell? ⟨a, k * 3 + 2, none⟩ = some (.int .u32 x.f) ∧ w'.cell? ⟨b, k * 3, none⟩ = some (.int .i64 x.v) ∧ w'.cell? ⟨b, k * 3 + 1, none⟩ = some (.int .u32 x.r) ∧ w'.cell? ⟨b, k * 3 + 2, none⟩ = some (.int .u32 x.f))
        (first | exact ⟨a0, a1, a2, b0, b1, b2⟩ | go_keep) (fail)
      go_wp2_with fail
      exact ⟨⟨k + 1, by go_num, by omega, (by repeat' (first | with_reducible exact Below.refl _ _ | with_reducible assumption | with_reducible refine Below.alloc ?_ ?_ _ | with_reducible refine Below.setCell ?_ ?_ _ | with_reducible refine Below.drew ?_ | with_reducible refine below_drewN ?_ _ | with_reducible refine Below.trans ?_ (Below.mono (by with_reducible assumption) ?_) | omega | (simp <;> omega)))⟩, by simp [intOf]; omega⟩
    · obtain rfl : n = k := by omega
      go_wp2_with fail
      go_ret
      exact ⟨rfl, (by repeat' (first | with_reducible exact Below.refl _ _ | with_reducible assumption | with_reducible refine Below.alloc ?_ ?_ _ | with_reducible refine Below.setCell ?_ ?_ _ | with_reducible refine Below.drew ?_ | with_reducible refine below_drewN ?_ _ | with_reducible refine Below.trans ?_ (Below.mono (by with_reducible assumption) ?_) | omega | (simp <;> omega)))⟩
def decidedR (x : W3) : Bool := (x.v == 1 || x.v == 2) && (decide (x.r ≤ 16777215) && x.f == 0)
set_option maxRecDepth 100000 in
theorem refstatus_any (x : W3) (w : World) : Calls Tryd.prog 19 #[(.agg #[.int .i64 (x).v, .int .u32 (x).r, .int .u32 (x).f])] w fun e w' => e = .returned (.bool (decidedR x)) ∧ Below w.heap.size w w' := by
  unfold decidedR
  cases h1 : (x.v == 1)
  all_goals cases h2 : (x.v == 2)
  all_goals cases h3 : (decide (x.r ≤ 16777215))
  all_goals go_enter Tryd.func19, Tryd.ntmps19
  all_goals go_wp2_with fail
  all_goals go_ret
  all_goals exact ⟨rfl, (by repeat' (first | with_reducible exact Below.refl _ _ | with_reducible assumption | with_reducible refine Below.alloc ?_ ?_ _ | with_reducible refine Below.setCell ?_ ?_ _ | with_reducible refine Below.drew ?_ | with_reducible refine below_drewN ?_ _ | with_reducible refine Below.trans ?_ (Below.mono (by with_reducible assumption) ?_) | omega | (simp <;> omega)))⟩
set_option maxRecDepth 100000 in
theorem times_any (x y : W3) (w : World) : Calls Tryd.prog 22 #[(.agg #[.int .i64 (x).v, .int .u32 (x).r, .int .u32 (x).f]), (.agg #[.int .i64 (y).v, .int .u32 (y).r, .int .u32 (y).f])] w fun e w' => e = .returned (.bool (decide (0 ≤ x.v) && (decide (1 ≤ y.v) && (x.f == 0 && y.f == 0)))) ∧ Below w.heap.size w w' := by
  cases h1 : decide (0 ≤ x.v)
  all_goals cases h2 : decide (1 ≤ y.v)
  all_goals cases h3 : (x.f == 0)
  all_goals go_enter Tryd.func22, Tryd.ntmps22
  all_goals go_wp2_with fail
  all_goals go_ret
  all_goals exact ⟨rfl, (by repeat' (first | with_reducible exact Below.refl _ _ | with_reducible assumption | with_reducible refine Below.alloc ?_ ?_ _ | with_reducible refine Below.setCell ?_ ?_ _ | with_reducible refine Below.drew ?_ | with_reducible refine below_drewN ?_ _ | with_reducible refine Below.trans ?_ (Below.mono (by with_reducible assumption) ?_) | omega | (simp <;> omega)))⟩
def maskTo (k : Nat) : Int := if k = 0 then 0 else if k = 1 then 1 else 3
def refBits (x : W3) : Bool := x.f == 0 && (decide (0 ≤ x.v) && (bits .and .i64 x.v 3 == x.v))
set_option maxHeartbeats 1000000 in
set_option maxRecDepth 100000 in
theorem refbits_any (x : W3) (w : World) : Calls Tryd.prog 21 #[(.agg #[.int .i64 (x).v, .int .u32 (x).r, .int .u32 (x).f]), .int .i64 0, .int .i64 2] w fun e w' => e = .returned (.bool (refBits x)) ∧ Below w.heap.size w w' := by
  obtain ⟨R, hR⟩ : ∃ R, R = refBits x := ⟨_, rfl⟩
  rw [← hR]
  have HR := hide hR
  clear hR
  go_enter Tryd.func21, Tryd.ntmps21
  go_wp2_with fail
  obtain ⟨w1, hw1⟩ : ∃ w1 : World, w1 = w.alloc (.cells #[.int .i64 x.v, .int .u32 x.r, .int .u32 x.f] 52) := ⟨_, rfl⟩
  have e0 : w1.cell? ⟨w.heap.size, 0, none⟩ = some (.int .i64 x.v) := by rw [hw1]; go_simp
  have e2 : w1.cell? ⟨w.heap.size, 2, none⟩ = some (.int .u32 x.f) := by rw [hw1]; go_simp
  have hB1 : Below w.heap.size w w1 := by rw [hw1]; exact (by repeat' (first | with_reducible exact Below.refl _ _ | with_reducible assumption | with_reducible refine Below.alloc ?_ ?_ _ | with_reducible refine Below.setCell ?_ ?_ _ | with_reducible refine Below.drew ?_ | with_reducible refine below_drewN ?_ _ | with_reducible refine Below.trans ?_ (Below.mono (by with_reducible assumption) ?_) | omega | (simp <;> omega)))
  have hz1 : w.heap.size < w1.heap.size := by rw [hw1]; simp
  rw [← hw1]
  clear hw1
  go_loopw [7, 8] (fun m i wr => ∃ k : Nat, i = .int .i64 k ∧ m = .int .i64 (maskTo k) ∧ k ≤ 32 ∧ Below w1.heap.size w1 wr) (fun _ i _ => 32 - (intOf i).toNat)
  case atStart => exact ⟨0, rfl, rfl, by omega, (by repeat' (first | with_reducible exact Below.refl _ _ | with_reducible assumption | with_reducible refine Below.alloc ?_ ?_ _ | with_reducible refine Below.setCell ?_ ?_ _ | with_reducible refine Below.drew ?_ | with_reducible refine below_drewN ?_ _ | with_reducible refine Below.trans ?_ (Below.mono (by with_reducible assumption) ?_) | omega | (simp <;> omega)))⟩
  case round =>
    obtain ⟨k, rfl, rfl, hk, hB⟩ := hrel
    have hsz := hB.size
    have f0 := (hB.cell (p := ⟨w.heap.size, 0, none⟩) hz1).trans e0
    have f2 := (hB.cell (p := ⟨w.heap.size, 2, none⟩) hz1).trans e2
    by_cases hlt : k < 32
    · have hki : (k : Int) < 32 := by omega
      rcases (by omega : k = 0 ∨ k = 1 ∨ 2 ≤ k) with rfl | rfl | hk2
      · rw [show maskTo 0 = 0 from rfl]
        go_wp2_with fail
        exact ⟨⟨1, rfl, (by first | rfl | go_num), by omega, (by repeat' (first | with_reducible exact Below.refl _ _ | with_reducible assumption | with_reducible refine Below.alloc ?_ ?_ _ | with_reducible refine Below.setCell ?_ ?_ _ | with_reducible refine Below.drew ?_ | with_reducible refine below_drewN ?_ _ | with_reducible refine Below.trans ?_ (Below.mono (by with_reducible assumption) ?_) | omega | (simp <;> omega)))⟩, by simp [intOf]⟩
      · rw [show maskTo 1 = 1 from rfl]
        go_wp2_with fail
        exact ⟨⟨2, rfl, (by first | rfl | go_num), by omega, (by repeat' (first | with_reducible exact Below.refl _ _ | with_reducible assumption | with_reducible refine Below.alloc ?_ ?_ _ | with_reducible refine Below.setCell ?_ ?_ _ | with_reducible refine Below.drew ?_ | with_reducible refine below_drewN ?_ _ | with_reducible refine Below.trans ?_ (Below.mono (by with_reducible assumption) ?_) | omega | (simp <;> omega)))⟩, by simp [intOf]⟩
      · have hk3 : ¬ ((0 : Int) + (k : Int) < 2) := by omega
        have hk4 : ¬ ((k : Int) < 2) := by omega
        have hm : maskTo k = 3 := by unfold maskTo; rw [if_neg (by omega), if_neg (by omega)]
        have hm2 : maskTo (k + 1) = 3 := by unfold maskTo; rw [if_neg (by omega), if_neg (by omega)]
        rw [hm]
        go_wp2_with fail
        exact ⟨⟨k + 1, by go_num, by (first | rfl | rw [hm2]), by omega, (by repeat' (first | with_reducible exact Below.refl _ _ | with_reducible assumption | with_reducible refine Below.alloc ?_ ?_ _ | with_reducible refine Below.setCell ?_ ?_ _ | with_reducible refine Below.drew ?_ | with_reducible refine below_drewN ?_ _ | with_reducible refine Below.trans ?_ (Below.mono (by with_reducible assumption) ?_) | omega | (simp <;> omega)))⟩, by simp [intOf]; omega⟩
    · obtain rfl : k = 32 := by omega
      cases h3 : (x.f == 0)
      all_goals cases h1 : decide (0 ≤ x.v)
      all_goals go_wp2_with fail
      all_goals go_ret
      all_goals refine ⟨?_, (by repeat' (first | with_reducible exact Below.refl _ _ | with_reducible assumption | with_reducible refine Below.alloc ?_ ?_ _ | with_reducible refine Below.setCell ?_ ?_ _ | with_reducible refine Below.drew ?_ | with_reducible refine below_drewN ?_ _ | with_reducible refine Below.trans ?_ (Below.mono (by with_reducible assumption) ?_) | omega | (simp <;> omega)))⟩
      all_goals rw [HR.out]
      all_goals unfold refBits
      all_goals rw [h1, h3]
      all_goals rfl
/-! The two spellings of invariant 4. -/
theorem wrap_nat0 {n : Nat} (h : n < 18446744073709551616) (h0 : IntKind.wrap .i64 (n : Int) = 0) : n = 0 := by
  simp only [IntKind.wrap, IntKind.signed, IntKind.bits, IntKind.min, IntKind.max] at h0
  (try split at h0) <;> omega
theorem wrap_small {n : Nat} (h : n ≤ 3) : IntKind.wrap .i64 (n : Int) = n := by
  match n, h with
  | 0, _ => decide
  | 1, _ => decide
  | 2, _ => decide
  | 3, _ => decide
theorem three_bit {i : Nat} (hi : 2 ≤ i) : (3#64).getLsbD i = false := by
  rw [BitVec.getLsbD]
  show Nat.testBit 3 i = false
  exact Nat.testBit_lt_two_pow (Nat.lt_of_lt_of_le (by decide : 3 < 2 ^ 2) (Nat.pow_le_pow_right (by decide) hi))
theorem low_of (x : BitVec 64) (h : (x &&& ~~~(3#64)).toNat = 0) : x.toNat < 2 ^ 2 := by
  apply Nat.lt_pow_two_of_testBit
  intro i hi
  have h5 : (x &&& ~~~(3#64)).getLsbD i = false := by
    unfold BitVec.getLsbD
    rw [h]
    simp
  by_cases h64 : i < 64
  · rw [BitVec.getLsbD_and, BitVec.getLsbD_not, three_bit hi] at h5
    simpa [h64, BitVec.getLsbD] using h5
  · exact Nat.testBit_lt_two_pow (Nat.lt_of_lt_of_le (BitVec.isLt _) (Nat.pow_le_pow_right (by decide) (by omega)))
theorem bits_law {v : Int} (h1 : -9223372036854775808 ≤ v) (h2 : v ≤ 9223372036854775807) : (bits .andNot .i64 v 3 == 0) = (decide (0 ≤ v) && (bits .and .i64 v 3 == v)) := by
  by_cases h : v = 0 ∨ v = 1 ∨ v = 2 ∨ v = 3
  · rcases h with rfl | rfl | rfl | rfl <;> decide
  · have e1 : bits .andNot .i64 v 3 = IntKind.wrap .i64 (((BitVec.ofInt 64 v &&& ~~~(3#64)).toNat : Nat) : Int) := rfl
    have e2 : bits .and .i64 v 3 = IntKind.wrap .i64 (((BitVec.ofInt 64 v &&& 3#64).toNat : Nat) : Int) := rfl
    have hl : (bits .andNot .i64 v 3 == 0) = false := by
      rw [beq_eq_false_iff_ne, e1]
      intro h0
      have h4 := low_of _ (wrap_nat0 (BitVec.isLt _) h0)
      rw [BitVec.toNat_ofInt] at h4
      omega
    have hb : (BitVec.ofInt 64 v &&& 3#64).toNat ≤ 3 := by
      rw [BitVec.toNat_and]
      exact Nat.and_le_right
    have hr : (bits .and .i64 v 3 == v) = false := by
      rw [beq_eq_false_iff_ne, e2, wrap_small hb]
      omega
    rw [hl, hr, Bool.and_false]
end Go.Proofs.YtfldjbojonbmpaaDoor
