/- The law's alike and the reference's single words. -/
import Derived.Test.YtbomhhkknopdpaaGreatDoorD3
import Derived.Test.YtbomhhkknopdpaaGreatDoorBx
import Derived.Deep.RegionHeld3
namespace Go.Proofs.YtbomhhkknopdpaaGreatDoor
set_option linter.unusedSimpArgs false
set_option linter.unusedVariables false
open Go.RowKit
set_option maxRecDepth 100000 in
theorem alike_same (a b n ca cb : Nat) (l : List W3) (w : World) (ha : Mem a l w) (hb : Mem b l w) (hl : l.length = n) (hnm : n ≤ 1000000) :
    Calls Tryz.prog 10 #[.slice (some ⟨a, 0, none⟩) n ca, .slice (some ⟨b, 0, none⟩) n cb] w fun e w' => e = .returned (.bool true) ∧ Below w.heap.size w w' := by
  have Ha := hide ha
  have Hb := hide hb
  have Hl := hide hl
  have hnn : ¬ ((n : Int) ≠ (n : Int)) := by omega
  clear ha hb hl
  go_enter Tryz.func10, Tryz.ntmps10
  go_wp2_with fail
  go_loopw [13] (fun i wr => ∃ k : Nat, i = .int .i64 k ∧ k ≤ n ∧ Below w.heap.size w wr) (fun i _ => n - (intOf i).toNat)
  case atStart => exact ⟨0, rfl, by omega, (by repeat' (first | with_reducible exact Below.refl _ _ | with_reducible assumption | with_reducible refine Below.alloc ?_ ?_ _ | with_reducible refine Below.setCell ?_ ?_ _ | with_reducible refine Below.drew ?_ | with_reducible refine below_drewN ?_ _ | with_reducible refine Below.trans ?_ (Below.mono (by with_reducible assumption) ?_) | omega | (simp <;> omega)))⟩
  case round =>
    obtain ⟨k, rfl, hk, hB⟩ := hrel
    have hsz := hB.size
    by_cases hlt : k < n
    · obtain ⟨x, hx⟩ : ∃ x, l[k]? = some x := ⟨_, List.getElem?_eq_getElem (by rw [Hl.out]; omega)⟩
      have hMa := Ha.out.grow hB
      have hMb := Hb.out.grow hB
      have a0 := hMa.w0 hx
      have a1 := hMa.w1 hx
      have a2 := hMa.w2 hx
      have b0 := hMb.w0 hx
      have b1 := hMb.w1 hx
      have b2 := hMb.w2 hx
      have hne := neqWord x x
      rw [show eq3 x x = true from (eq3_iff x x).2 rfl] at hne
      have hk0 : (0 : Int) ≤ (k : Int) := by omega
      have hk1 : (k : Int) < (n : Int) := by omega
      clear hMa hMb hx
      go_wp2_with fail
      go_region_held3 (fun w' => w'.cell? ⟨a, k * 3, none⟩ = some (.int .i64 x.v) ∧ w'.cell? ⟨a, k * 3 + 1, none⟩ = some (.int .u32 x.r) ∧ w'.cell? ⟨a, k * 3 + 2, none⟩ = some (.int .u32 x.f) ∧ w'.cell? ⟨b, k * 3, none⟩ = some (.int .i64 x.v) ∧ w'.cell? ⟨b, k * 3 + 1, none⟩ = some (.int .u32 x.r) ∧ w'.cell? ⟨b, k * 3 + 2, none⟩ = some (.int .u32 x.f))
        (first | exact ⟨a0, a1, a2, b0, b1, b2⟩ | go_keep) (fail)
      go_wp2_with fail
      exact ⟨⟨k + 1, by go_num, by omega, (by repeat' (first | with_reducible exact Below.refl _ _ | with_reducible assumption | with_reducible refine Below.alloc ?_ ?_ _ | with_reducible refine Below.setCell ?_ ?_ _ | with_reducible refine Below.drew ?_ | with_reducible refine below_drewN ?_ _ | with_reducible refine Below.trans ?_ (Below.mono (by with_reducible assumption) ?_) | omega | (simp <;> omega)))⟩, by simp [intOf]; omega⟩
    · obtain rfl : n = k := by omega
      go_wp2_with fail
      go_ret
      exact ⟨rfl, (by repeat' (first | with_reducible exact Below.refl _ _ | with_reducible assumption | with_reducible refine Below.alloc ?_ ?_ _ | with_reducible refine Below.setCell ?_ ?_ _ | with_reducible refine Below.drew ?_ | with_reducible refine below_drewN ?_ _ | with_reducible refine Below.trans ?_ (Below.mono (by with_reducible assumption) ?_) | omega | (simp <;> omega)))⟩
def decidedR (x : W3) : Bool := (x.v == 1 || x.v == 2) && (decide (x.r ≤ 16777215) && x.f == 0)
def maskTo (k : Nat) : Int := if k = 0 then 0 else if k = 1 then 1 else 3
def refBits (x : W3) : Bool := x.f == 0 && (decide (0 ≤ x.v) && (bits .and .i64 x.v 3 == x.v))
/-! The two spellings of invariant 4. -/
theorem wrap_nat0 {n : Nat} (h : n < 18446744073709551616) (h0 : IntKind.wrap .i64 (n : Int) = 0) : n = 0 := by
  simp only [IntKind.wrap, IntKind.signed, IntKind.bits, IntKind.min, IntKind.max] at h0
  (try split at h0) <;> omega
theorem wrap_small {n : Nat} (h : n ≤ 3) : IntKind.wrap .i64 (n : Int) = n := by
  match n, h with
  | 0, _ => decide
  | 1, _ => decide
  | 2, _ => decide
  | 3, _ => decide
theorem three_bit {i : Nat} (hi : 2 ≤ i) : (3#64).getLsbD i = false := by
  rw [BitVec.getLsbD]
  show Nat.testBit 3 i = false
  exact Nat.testBit_lt_two_pow (Nat.lt_of_lt_of_le (by decide : 3 < 2 ^ 2) (Nat.pow_le_pow_right (by decide) hi))
theorem low_of (x : BitVec 64) (h : (x &&& ~~~(3#64)).toNat = 0) : x.toNat < 2 ^ 2 := by
  apply Nat.lt_pow_two_of_testBit
  intro i hi
  have h5 : (x &&& ~~~(3#64)).getLsbD i = false := by
    unfold BitVec.getLsbD
    rw [h]
    simp
  by_cases h64 : i < 64
  · rw [BitVec.getLsbD_and, BitVec.getLsbD_not, three_bit hi] at h5
    simpa [h64, BitVec.getLsbD] using h5
  · exact Nat.testBit_lt_two_pow (Nat.lt_of_lt_of_le (BitVec.isLt _) (Nat.pow_le_pow_right (by decide) (by omega)))
theorem bits_law {v : Int} (h1 : -9223372036854775808 ≤ v) (h2 : v ≤ 9223372036854775807) : (bits .andNot .i64 v 3 == 0) = (decide (0 ≤ v) && (bits .and .i64 v 3 == v)) := by
  by_cases h : v = 0 ∨ v = 1 ∨ v = 2 ∨ v = 3
  · rcases h with rfl | rfl | rfl | rfl <;> decide
  · have e1 : bits .andNot .i64 v 3 = IntKind.wrap .i64 (((BitVec.ofInt 64 v &&& ~~~(3#64)).toNat : Nat) : Int) := rfl
    have e2 : bits .and .i64 v 3 = IntKind.wrap .i64 (((BitVec.ofInt 64 v &&& 3#64).toNat : Nat) : Int) := rfl
    have hl : (bits .andNot .i64 v 3 == 0) = false := by
      rw [beq_eq_false_iff_ne, e1]
      intro h0
      have h4 := low_of _ (wrap_nat0 (BitVec.isLt _) h0)
      rw [BitVec.toNat_ofInt] at h4
      omega
    have hb : (BitVec.ofInt 64 v &&& 3#64).toNat ≤ 3 := by
      rw [BitVec.toNat_and]
      exact Nat.and_le_right
    have hr : (bits .and .i64 v 3 == v) = false := by
      rw [beq_eq_false_iff_ne, e2, wrap_small hb]
      omega
    rw [hl, hr, Bool.and_false]
end Go.Proofs.YtbomhhkknopdpaaGreatDoor
