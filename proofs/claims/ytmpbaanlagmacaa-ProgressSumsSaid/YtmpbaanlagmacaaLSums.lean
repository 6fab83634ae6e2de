/- ProgressSums: for every list of bytes the steps between completed operations and the current count add up to all steps, and Worst is the largest of these counts. No condition. -/
import Derived.Test.YtmpbaanlagmacaaRows
import Derived.Test.YtmpbaanlagmacaaFr
import Derived.Test.YtmpbaanlagmacaaP1
namespace Go.Proofs.Ytmpbaanlagmacaa.lawSums
open Go.ChangeShapes Go.WideShapes Go.ChangeAt Go.RowKit

theorem own : ownKnob Try.prog.godebug = none := by kernel_rfl

/-- The state of the law's loop: the meter's cells and the law's own counts. -/
def Inv (B : Nat) (k : Nat) (s sum worst ops : Int) (wr : World) : Prop :=
  wr.cell? ⟨B, 0, none⟩ = some (.int .i64 s) ∧ wr.cell? ⟨B, 1, none⟩ = some (.int .i64 worst) ∧ wr.cell? ⟨B, 2, none⟩ = some (.int .i64 ops) ∧ wr.cell? ⟨B, 3, none⟩ = some (.int .i64 3) ∧
    wr.frozen? ⟨B, 0, none⟩ = false ∧ wr.frozen? ⟨B, 1, none⟩ = false ∧ wr.frozen? ⟨B, 2, none⟩ = false ∧ wr.frozen? ⟨B, 3, none⟩ = false ∧ B < wr.heap.size ∧
    0 ≤ s ∧ s ≤ worst ∧ 0 ≤ sum ∧ sum + s ≤ k ∧ 0 ≤ ops ∧ ops ≤ k ∧ worst ≤ k

set_option maxHeartbeats 2000000 in
set_option maxRecDepth 100000 in
theorem sums_any (A : Option Addr) (n cap : Nat) (zs : List Int) (w : World) (hn : zs.length = n) (h300 : n ≤ 300) (hwf : ∀ z ∈ zs, (Lit.int .u8 z).wf = true) (hr : Rd w w.heap.size 1 A n (zs.map (Value.int .u8))) :
    Calls Try.prog 5 #[.slice A n cap] w fun e w' => e = .returned (.bool true) ∧ Below w.heap.size w w' := by
  go_enter Try.func5, Try.ntmps5
  go_wp2_with (first
    | (go_at_call 16; refine (new_ok 3 _ (by omega) (by omega)).mono ?_; rintro e w1 ⟨rfl, hb1⟩; have hz1 := hb1.size))
  go_loopw [5, 6, 7, 8, 9] (fun a5 a6 a7 a8 a9 wr => ∃ (k : Nat) (s sum worst ops : Int), k ≤ n ∧ a9 = .int .i64 k ∧ a5 = .int .i64 (sum + s) ∧ a6 = .int .i64 sum ∧ a7 = .int .i64 worst ∧ a8 = .int .i64 ops ∧ Inv w1.heap.size k s sum worst ops wr ∧ Below w.heap.size w wr)
    (fun _ _ _ _ i _ => n - (intOf i).toNat)
  case atStart =>
    exact ⟨0, 0, 0, 0, 0, by omega, rfl, rfl, rfl, rfl, rfl, by unfold Inv; simp, (by repeat' (first | with_reducible exact Below.refl _ _ | with_reducible assumption | with_reducible refine Below.alloc ?_ ?_ _ | with_reducible refine Below.setCell ?_ ?_ _ | with_reducible refine Below.drew ?_ | with_reducible refine Below.trans ?_ (Below.mono (by with_reducible assumption) ?_) | omega | (simp <;> omega)))⟩
  case round =>
    obtain ⟨k, s, sum, worst, ops, hk, rfl, rfl, rfl, rfl, rfl, ⟨c0, c1, c2, c3, f0, f1, f2, f3, hBz, i1, i2, i3, i4, i5, i6, i7⟩, hB⟩ := hrel
    by_cases hlt : k < n
    · obtain ⟨b, off, rfl, hbW, hcA⟩ := hr.at_ hlt
      have hzk : zs[k]? = some (zs[k]'(by omega)) := List.getElem?_eq_getElem (by omega)
      have hcz : wr.cell? ⟨b, off + k, none⟩ = some (.int .u8 (zs[k]'(by omega))) := (hB.cell (p := ⟨b, off + k, none⟩) hbW).trans (hcA k _ (by rw [List.getElem?_map, hzk]; rfl))
      have hwz := hwf _ (List.getElem_mem (show k < zs.length by omega))
      generalize (zs[k]'(by omega)) = z at hcz hwz hzk
      obtain ⟨z0, z1⟩ := bounds_u8 hwz
      clear hzk hwz hcA hr hn hwf
      by_cases h200 : 200 ≤ z
      · go_wp2_with (first
          | (go_at_call 21; refine (since_any _ _ _ _ _).mono ?_; rintro e w2 ⟨rfl, hb2⟩; obtain ⟨hc2, hf2⟩ := bcell hb2; have hz2 : w1.heap.size < w2.heap.size := (by have h := hb2.size; (try simp at h); omega))
          | (go_at_call 18; refine (done_yes _ _ _ _ _ _ (by omega) (by omega) (by omega) (by omega)).mono ?_; rintro e w2 ⟨rfl, hb2⟩; obtain ⟨hc2, hf2⟩ := bcell hb2; have hz2 : w1.heap.size < w2.heap.size := (by have h := hb2.size; (try simp at h); omega)))
        refine ⟨⟨k + 1, 0, sum + s, worst, ops + 1, by omega, by go_num, by go_num, rfl, rfl, rfl, ?_, (by repeat' (first | with_reducible exact Below.refl _ _ | with_reducible assumption | with_reducible refine Below.alloc ?_ ?_ _ | with_reducible refine Below.setCell ?_ ?_ _ | with_reducible refine Below.drew ?_ | with_reducible refine Below.trans ?_ (Below.mono (by with_reducible assumption) ?_) | omega | (simp <;> omega)))⟩, by simp [intOf]; omega⟩
        unfold Inv
        refine ⟨by go_simp, by go_simp, by go_simp, by go_simp, by go_simp, by go_simp, by go_simp, by go_simp, hz2, by omega, by omega, by omega, by omega, by omega, by omega, by omega⟩
      · by_cases hm : worst < s + 1
        · go_wp2_with (first
            | (go_at_call 21; refine (since_any _ _ _ _ _).mono ?_; rintro e w2 ⟨rfl, hb2⟩; obtain ⟨hc2, hf2⟩ := bcell hb2; have hz2 : w1.heap.size < w2.heap.size := (by have h := hb2.size; (try simp at h); omega))
            | (go_at_call 17; refine (step_lt _ _ _ _ _ _ (by omega) (by omega) (by omega) (by omega) (by omega)).mono ?_; rintro e w2 ⟨rfl, hb2⟩; obtain ⟨hc2, hf2⟩ := bcell hb2; have hz2 : w1.heap.size < w2.heap.size := (by have h := hb2.size; (try simp at h); omega)))
          refine ⟨⟨k + 1, s + 1, sum, s + 1, ops, by omega, by go_num, by go_num, rfl, rfl, rfl, ?_, (by repeat' (first | with_reducible exact Below.refl _ _ | with_reducible assumption | with_reducible refine Below.alloc ?_ ?_ _ | with_reducible refine Below.setCell ?_ ?_ _ | with_reducible refine Below.drew ?_ | with_reducible refine Below.trans ?_ (Below.mono (by with_reducible assumption) ?_) | omega | (simp <;> omega)))⟩, by simp [intOf]; omega⟩
          unfold Inv
          refine ⟨by go_simp, by go_simp, by go_simp, by go_simp, by go_simp, by go_simp, by go_simp, by go_simp, hz2, by omega, by omega, by omega, by omega, by omega, by omega, by omega⟩
        · go_wp2_with (first
            | (go_at_call 21; refine (since_any _ _ _ _ _).mono ?_; rintro e w2 ⟨rfl, hb2⟩; obtain ⟨hc2, hf2⟩ := bcell hb2; have hz2 : w1.heap.size < w2.heap.size := (by have h := hb2.size; (try simp at h); omega))
            | (go_at_call 17; refine (step_ge _ _ _ _ _ _ (by omega) (by omega) (by omega) (by omega) (by omega)).mono ?_; rintro e w2 ⟨rfl, hb2⟩; obtain ⟨hc2, hf2⟩ := bcell hb2; have hz2 : w1.heap.size < w2.heap.size := (by have h := hb2.size; (try simp at h); omega)))
          refine ⟨⟨k + 1, s + 1, sum, worst, ops, by omega, by go_num, by go_num, rfl, rfl, rfl, ?_, (by repeat' (first | with_reducible exact Below.refl _ _ | with_reducible assumption | with_reducible refine Below.alloc ?_ ?_ _ | with_reducible refine Below.setCell ?_ ?_ _ | with_reducible refine Below.drew ?_ | with_reducible refine Below.trans ?_ (Below.mono (by with_reducible assumption) ?_) | omega | (simp <;> omega)))⟩, by simp [intOf]; omega⟩
          unfold Inv
          refine ⟨by go_simp, by go_simp, by go_simp, by go_simp, by go_simp, by go_simp, by go_simp, by go_simp, hz2, by omega, by omega, by omega, by omega, by omega, by omega, by omega⟩
    · go_wp2_with (first
        | (go_at_call 21; refine (since_any _ _ _ _ _).mono ?_; rintro e w2 ⟨rfl, hb2⟩; obtain ⟨hc2, hf2⟩ := bcell hb2; have hz2 : w1.heap.size < w2.heap.size := (by have h := hb2.size; (try simp at h); omega))
        | (go_at_call 20; refine (worst_any _ _ _ _ _).mono ?_; rintro e w2 ⟨rfl, hb2⟩; obtain ⟨hc2, hf2⟩ := bcell hb2; have hz2 : w1.heap.size < w2.heap.size := (by have h := hb2.size; (try simp at h); omega))
        | (go_at_call 22; refine (ops_any _ _ _ _ _).mono ?_; rintro e w2 ⟨rfl, hb2⟩; obtain ⟨hc2, hf2⟩ := bcell hb2; have hz2 : w1.heap.size < w2.heap.size := (by have h := hb2.size; (try simp at h); omega))
        | (go_at_call 15; refine (awake61_any _).mono ?_; rintro e w2 ⟨rfl, hb2⟩; obtain ⟨hc2, hf2⟩ := bcell hb2; have hz2 : w1.heap.size < w2.heap.size := (by have h := hb2.size; (try simp at h); omega)))
      go_ret
      exact ⟨rfl, (by repeat' (first | with_reducible exact Below.refl _ _ | with_reducible assumption | with_reducible refine Below.alloc ?_ ?_ _ | with_reducible refine Below.setCell ?_ ?_ _ | with_reducible refine Below.drew ?_ | with_reducible refine Below.trans ?_ (Below.mono (by with_reducible assumption) ?_) | omega | (simp <;> omega)))⟩

theorem sums_great (A : Option Addr) (n cap : Nat) (w : World) (h300 : 300 < n) (hm : n ≤ maxLen) :
    Calls Try.prog 5 #[.slice A n cap] w fun e w' => e = .returned (.bool true) ∧ Below w.heap.size w w' := by
  unfold maxLen at hm
  go_enter Try.func5, Try.ntmps5
  go_wp2_with (go_at_call 15; refine (awake61_any _).mono ?_; rintro e w2 ⟨rfl, hb⟩)
  go_ret
  exact ⟨rfl, hb⟩

theorem cellsU8 : Try.prog.cellsOf 5 = 1 := by kernel_rfl

set_option maxRecDepth 100000 in
theorem walk : LawWalk Try.prog 5 #[41] := by
  intro H enc W base args ds p hval hA hlt
  obtain ⟨v0, d0, rfl, rfl, h0⟩ := trodAll_one hA
  obtain ⟨A, n, cap, zs, rfl, hm, hn, hr, hwf⟩ := rd_ints Try.underlying41 Try.underlying5 cellsU8 (hval 0 41 v0 rfl rfl) h0
  by_cases h : n ≤ 300
  · exact sums_any A n cap zs W hn h hwf hr
  · exact sums_great A n cap W (by omega) hm

set_option maxRecDepth 100000 in
theorem lifted (os : Os) (started : os.Started) (H : Type) (enc : TypeId × Value → H) :
    ReturnsInHanded {} Try.checked os 5 .any (Rows.progressSumsSpec.pre6 enc Try.prog Try.f5 Rows.progressSumsRow.domain false) (Rows.progressSumsSpec.post enc Try.prog Try.f5 false true false false) :=
  law_lifted (C := Try.checked) started own (by kernel_rfl) (by kernel_rfl) Try.func5 (by kernel_rfl) Try.underlying4 (by kernel_rfl)
    ⟨rfl, fun H ds h => by match ds, h with | [d1], _ => exact ⟨rfl, rfl, rfl⟩⟩
    (ChangeSpec.witness6 (enc := enc) (C := Try.checked) false ⟨#[], #[.slice none 0 0], []⟩ 8 (by kernel_rfl) (by kernel_rfl) (by kernel_rfl) (by kernel_rfl)) (by rw [Try.params5]; exact walk)

theorem over : Rows.progressSumsRow.holds Try.pinned (OpenSpec.ofChange Rows.progressSumsSpec) :=
  OpenClaim.holds_of_wide 5 Try.f5 rfl rfl rfl rfl rfl rfl rfl ⟨rfl, rfl, rfl, rfl, rfl⟩ rfl rfl rfl rfl rfl (by kernel_rfl) Try.func5 (by kernel_rfl)
    (of_decide_eq_true (by kernel_rfl)) (by unfold Func.isWrapper; first | (rw [if_pos (by decide +kernel)]; kernel_rfl) | (rw [if_neg (by decide +kernel)]; exact ⟨rfl, rfl⟩))
    (fun os started H enc _ => lifted os started H enc)

theorem proved : Rows.ProgressSumsSaid := over
end Go.Proofs.Ytmpbaanlagmacaa.lawSums
