/- The law's alike and the reference's single words. -/
import Derived.Test.YtapjfhbonfehpaaGreatDoorV17
import Derived.Test.YtapjfhbonfehpaaGreatDoorV18
set_option linter.unusedSimpArgs false
set_option linter.unusedVariables false
set_option maxRecDepth 100000
set_option maxHeartbeats 40000000
namespace Go.Proofs.YtapjfhbonfehpaaGreatDoor
open Go.RowKit
theorem C0 (a b n ca cb : Nat) (l : List W3) (w : World) (ha : Mem a l w) (hb : Mem b l w) (hl : l.length = n) (hnm : n ≤ 1000000) :
  Calls Tryz.prog 9 #[.slice (some ⟨a, 0, none⟩) n ca, .slice (some ⟨b, 0, none⟩) n cb] w (cd (.bool true) w) := by
 have Ha := aa ha;have Hb := aa hb;have Hl := aa hl;have hnn : ¬ ((n : Int) ≠ (n : Int)) := by omega
 clear ha hb hl;go_enter Tryz.func9, Tryz.ntmps9;go_wp2_with fail
 go_loopw [13] (fun i wr => ∃ k : Nat, i = .int .i64 k ∧ k ≤ n ∧ Below w.heap.size w wr) (fun i _ => n - (intOf i).toNat)
 case atStart => exact ⟨0, rfl, by omega, ae⟩
 case round =>
  obtain ⟨k, rfl, hk, hB⟩ := hrel;have hsz := hB.size;by_cases hlt : k < n
  ·obtain ⟨x, hx⟩ : ∃ x, l[k]? = some x := ⟨_, List.getElem?_eq_getElem (by rw [Hl.out]; omega)⟩;have Wz := Ha.out.grow hB;have Wy := Hb.out.grow hB;have a0 := Wz.w0 hx;have a1 := Wz.w1 hx;have a2 := Wz.w2 hx;have b0 := Wy.w0 hx;have b1 := Wy.w1 hx;have b2 := Wy.w2 hx;have hne := sD x x;rw [show ql x x = true from (DT x x).2 rfl] at hne;have hk0 : (0 : Int) ≤ (k : Int) := by omega
   have hk1 : (k : Int) < (n : Int) := by omega
   clear Wz Wy hx;go_wp2_with fail
   go_region_held3 (fun w' => w'.cell? ⟨a, k * 3, none⟩ = some (.int .i64 x.v) ∧ w'.cell? ⟨a, k * 3 + 1, none⟩ = some (.int .u32 x.r) ∧ w'.cell? ⟨a, k * 3 + 2, none⟩ = some (.int .u32 x.f) ∧ w'.cell? ⟨b, k * 3, none⟩ = some (.int .i64 x.v) ∧ w'.cell? ⟨b, k * 3 + 1, none⟩ = some (.int .u32 x.r) ∧ w'.cell? ⟨b, k * 3 + 2, none⟩ = some (.int .u32 x.f))
    (first | exact ⟨a0, a1, a2, b0, b1, b2⟩ | go_keep) (fail)
   go_wp2_with fail;exact ⟨⟨k + 1, by go_num, by omega, ae⟩, by simp [intOf]; omega⟩
  ·obtain rfl : n = k := by omega
   go_wp2_with fail;go_ret;exact ⟨rfl, ae⟩
/-! The two spellings of invariant 4. -/
end Go.Proofs.YtapjfhbonfehpaaGreatDoor
