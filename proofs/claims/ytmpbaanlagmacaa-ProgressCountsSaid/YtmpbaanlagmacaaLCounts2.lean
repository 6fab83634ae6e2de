/- ProgressCounts: for every number of threads and every list of events the counters agree with the reference's Count over the events of existing threads, and earlier meters are unchanged. No condition. -/
import Derived.Test.YtmpbaanlagmacaaRows
import Derived.Test.YtmpbaanlagmacaaFr
import Derived.Test.YtmpbaanlagmacaaLCounts
namespace Go.Proofs.Ytmpbaanlagmacaa.lawCounts
open Go.ChangeShapes Go.WideShapes Go.ChangeAt Go.RowKit

set_option maxHeartbeats 2000000 in
set_option maxRecDepth 100000 in
theorem counts_bad (th : Int) (A : Option Addr) (n cap : Nat) (l : List (Bool × Int)) (w : World) (ht : th < 1 ∨ 8 < th) (hn : l.length = n) (h300 : n ≤ 300) (hr : Rd w w.heap.size 2 A n (l.flatMap actc)) :
    Calls Try.prog 3 #[.int .i64 th, .slice A n cap] w fun e w' => e = .returned (.bool true) ∧ Below w.heap.size w w' := by
  rcases ht with ht1 | ht1
  all_goals
    go_enter Try.func3, Try.ntmps3
    go_wp2_with (first
      | (go_at_call 16; refine (new_no _ _ (by omega)).mono ?_; rintro e w1 ⟨rfl, hb1⟩; have hz1 := hb1.size))
    go_loopw [8, 9] (fun v i wr => ∃ (k : Nat), k ≤ n ∧ i = .int .i64 k ∧ v = .slice none 0 0 ∧ Met w1.heap.size 0 0 0 0 wr ∧ Below w.heap.size w wr)
      (fun _ i _ => n - (intOf i).toNat)
    case atStart =>
      exact ⟨0, by omega, rfl, rfl, by unfold Met; simp, (by repeat' (first | with_reducible exact Below.refl _ _ | with_reducible assumption | with_reducible refine Below.alloc ?_ ?_ _ | with_reducible refine Below.setCell ?_ ?_ _ | with_reducible refine Below.drew ?_ | with_reducible refine Below.trans ?_ (Below.mono (by with_reducible assumption) ?_) | omega | (simp <;> omega)))⟩
    case round =>
      obtain ⟨k, hk, rfl, rfl, ⟨c0, c1, c2, c3, f0, f1, f2, f3, hBz⟩, hB⟩ := hrel
      by_cases hlt : k < n
      · have hzk : l[k]? = some (l[k]'(by omega)) := List.getElem?_eq_getElem (by omega)
        obtain ⟨b, off, rfl, hbW, hcA⟩ := hr.elem (fun _ => rfl) hlt hzk
        generalize (l[k]'(by omega)) = z at hcA hzk
        obtain ⟨d, t⟩ := z
        have hx0 : wr.cell? ⟨b, off + k * 2, none⟩ = some (.bool d) := (hB.cell (p := ⟨b, off + k * 2, none⟩) hbW).trans (hcA 0 _ rfl)
        have hx1 : wr.cell? ⟨b, off + k * 2 + 1, none⟩ = some (.int .i64 t) := (hB.cell (p := ⟨b, off + k * 2 + 1, none⟩) hbW).trans (hcA 1 _ rfl)
        clear hzk hcA hr hn
        by_cases hv1 : t < 1
        · cases d
          all_goals
            go_wp2_with (first
              | (go_at_call 17; refine (step_no _ _ _ _ _ _ (by omega)).mono ?_; rintro e w2 ⟨rfl, hbw2⟩; obtain ⟨hcw2, hfw2⟩ := bcell hbw2; have hy1 : w1.heap.size < w2.heap.size := (by have h := hbw2.size; (try simp at h); omega); have hy2 : wr.heap.size < w2.heap.size := (by have h := hbw2.size; (try simp at h); omega))
              | (go_at_call 18; refine (done_no _ _ _ _ _ _ (by omega)).mono ?_; rintro e w3 ⟨rfl, hbw3⟩; obtain ⟨hcw3, hfw3⟩ := bcell hbw3; have hy1 : w1.heap.size < w3.heap.size := (by have h := hbw3.size; (try simp at h); omega); have hy2 : wr.heap.size < w3.heap.size := (by have h := hbw3.size; (try simp at h); omega); have hy3 : w2.heap.size < w3.heap.size := (by have h := hbw3.size; (try simp at h); omega))
              | (go_at_call 19; refine (count_any _ 0 _ [] 0 _ rfl (by decide) (Rd.nil _ _ _ _)).mono ?_; rintro e w2 ⟨rfl, rfl⟩; (rw [show cnt [] = (0, 0, 0) from rfl]))
              | (go_at_call 20; refine (worst_any _ _ _ _ _).mono ?_; rintro e w3 ⟨rfl, hbw3⟩; obtain ⟨hcw3, hfw3⟩ := bcell hbw3; have hy1 : w1.heap.size < w3.heap.size := (by have h := hbw3.size; (try simp at h); omega); have hy2 : wr.heap.size < w3.heap.size := (by have h := hbw3.size; (try simp at h); omega); have hy3 : w2.heap.size < w3.heap.size := (by have h := hbw3.size; (try simp at h); omega))
              | (go_at_call 21; refine (since_any _ _ _ _ _).mono ?_; rintro e w3 ⟨rfl, hbw3⟩; obtain ⟨hcw3, hfw3⟩ := bcell hbw3; have hy1 : w1.heap.size < w3.heap.size := (by have h := hbw3.size; (try simp at h); omega); have hy2 : wr.heap.size < w3.heap.size := (by have h := hbw3.size; (try simp at h); omega); have hy3 : w2.heap.size < w3.heap.size := (by have h := hbw3.size; (try simp at h); omega))
              | (go_at_call 22; refine (ops_any _ _ _ _ _).mono ?_; rintro e w3 ⟨rfl, hbw3⟩; obtain ⟨hcw3, hfw3⟩ := bcell hbw3; have hy1 : w1.heap.size < w3.heap.size := (by have h := hbw3.size; (try simp at h); omega); have hy2 : wr.heap.size < w3.heap.size := (by have h := hbw3.size; (try simp at h); omega); have hy3 : w2.heap.size < w3.heap.size := (by have h := hbw3.size; (try simp at h); omega)))
            refine ⟨⟨k + 1, by omega, by go_num, rfl, ?_, (by repeat' (first | with_reducible exact Below.refl _ _ | with_reducible assumption | with_reducible refine Below.alloc ?_ ?_ _ | with_reducible refine Below.setCell ?_ ?_ _ | with_reducible refine Below.drew ?_ | with_reducible refine Below.trans ?_ (Below.mono (by with_reducible assumption) ?_) | omega | (simp <;> omega)))⟩, by simp [intOf]; omega⟩
            · have hM : Met w1.heap.size 0 0 0 0 w3 := by
                unfold Met
                refine ⟨by go_simp, by go_simp, by go_simp, by go_simp, by go_simp, by go_simp, by go_simp, by go_simp, by omega⟩
              exact hM.set _ _ _ _
        · have hv2 : (0 : Int) < t := by omega
          cases d
          all_goals
            go_wp2_with (first
              | (go_at_call 17; refine (step_no _ _ _ _ _ _ (by omega)).mono ?_; rintro e w2 ⟨rfl, hbw2⟩; obtain ⟨hcw2, hfw2⟩ := bcell hbw2; have hy1 : w1.heap.size < w2.heap.size := (by have h := hbw2.size; (try simp at h); omega); have hy2 : wr.heap.size < w2.heap.size := (by have h := hbw2.size; (try simp at h); omega))
              | (go_at_call 18; refine (done_no _ _ _ _ _ _ (by omega)).mono ?_; rintro e w3 ⟨rfl, hbw3⟩; obtain ⟨hcw3, hfw3⟩ := bcell hbw3; have hy1 : w1.heap.size < w3.heap.size := (by have h := hbw3.size; (try simp at h); omega); have hy2 : wr.heap.size < w3.heap.size := (by have h := hbw3.size; (try simp at h); omega); have hy3 : w2.heap.size < w3.heap.size := (by have h := hbw3.size; (try simp at h); omega))
              | (go_at_call 19; refine (count_any _ 0 _ [] 0 _ rfl (by decide) (Rd.nil _ _ _ _)).mono ?_; rintro e w2 ⟨rfl, rfl⟩; (rw [show cnt [] = (0, 0, 0) from rfl]))
              | (go_at_call 20; refine (worst_any _ _ _ _ _).mono ?_; rintro e w3 ⟨rfl, hbw3⟩; obtain ⟨hcw3, hfw3⟩ := bcell hbw3; have hy1 : w1.heap.size < w3.heap.size := (by have h := hbw3.size; (try simp at h); omega); have hy2 : wr.heap.size < w3.heap.size := (by have h := hbw3.size; (try simp at h); omega); have hy3 : w2.heap.size < w3.heap.size := (by have h := hbw3.size; (try simp at h); omega))
              | (go_at_call 21; refine (since_any _ _ _ _ _).mono ?_; rintro e w3 ⟨rfl, hbw3⟩; obtain ⟨hcw3, hfw3⟩ := bcell hbw3; have hy1 : w1.heap.size < w3.heap.size := (by have h := hbw3.size; (try simp at h); omega); have hy2 : wr.heap.size < w3.heap.size := (by have h := hbw3.size; (try simp at h); omega); have hy3 : w2.heap.size < w3.heap.size := (by have h := hbw3.size; (try simp at h); omega))
              | (go_at_call 22; refine (ops_any _ _ _ _ _).mono ?_; rintro e w3 ⟨rfl, hbw3⟩; obtain ⟨hcw3, hfw3⟩ := bcell hbw3; have hy1 : w1.heap.size < w3.heap.size := (by have h := hbw3.size; (try simp at h); omega); have hy2 : wr.heap.size < w3.heap.size := (by have h := hbw3.size; (try simp at h); omega); have hy3 : w2.heap.size < w3.heap.size := (by have h := hbw3.size; (try simp at h); omega)))
            refine ⟨⟨k + 1, by omega, by go_num, rfl, ?_, (by repeat' (first | with_reducible exact Below.refl _ _ | with_reducible assumption | with_reducible refine Below.alloc ?_ ?_ _ | with_reducible refine Below.setCell ?_ ?_ _ | with_reducible refine Below.drew ?_ | with_reducible refine Below.trans ?_ (Below.mono (by with_reducible assumption) ?_) | omega | (simp <;> omega)))⟩, by simp [intOf]; omega⟩
            · have hM : Met w1.heap.size 0 0 0 0 w3 := by
                unfold Met
                refine ⟨by go_simp, by go_simp, by go_simp, by go_simp, by go_simp, by go_simp, by go_simp, by go_simp, by omega⟩
              exact hM.set _ _ _ _
      · have hkn : n ≤ k := by omega
        go_wp2_with (go_at_call 15; refine (awake61_any _).mono ?_; rintro e w3 ⟨rfl, hbw3⟩; obtain ⟨hcw3, hfw3⟩ := bcell hbw3)
        go_ret
        exact ⟨rfl, (by repeat' (first | with_reducible exact Below.refl _ _ | with_reducible assumption | with_reducible refine Below.alloc ?_ ?_ _ | with_reducible refine Below.setCell ?_ ?_ _ | with_reducible refine Below.drew ?_ | with_reducible refine Below.trans ?_ (Below.mono (by with_reducible assumption) ?_) | omega | (simp <;> omega)))⟩

theorem counts_great (th : Int) (A : Option Addr) (n cap : Nat) (w : World) (h300 : 300 < n) (hm : n ≤ maxLen) :
    Calls Try.prog 3 #[.int .i64 th, .slice A n cap] w fun e w' => e = .returned (.bool true) ∧ Below w.heap.size w w' := by
  unfold maxLen at hm
  go_enter Try.func3, Try.ntmps3
  go_wp2_with (go_at_call 15; refine (awake61_any _).mono ?_; rintro e w2 ⟨rfl, hb⟩)
  go_ret
  exact ⟨rfl, hb⟩

set_option maxRecDepth 100000 in
theorem walk : LawWalk Try.prog 3 #[3, 22] := by
  intro H enc W base args ds p hval hA hlt
  obtain ⟨v0, v1, d0, d1, p0, p1, rfl, rfl, rfl, h0, h1⟩ := trodAll_two hA
  obtain ⟨th, rfl, rfl, rfl, wt⟩ := open_int Try.underlying3 (hval 0 3 v0 rfl rfl) h0
  obtain ⟨A, n, cap, xs, rfl, hm, hr, hx⟩ := rd_structs Try.underlying22 Try.underlying33 (by kernel_rfl) (by kernel_rfl) (by decide) (hval 1 22 v1 rfl rfl) h1
  obtain ⟨l, hl, rfl⟩ := told 2 actc (fun _ => rfl) n xs hr.1 (fun i hi => by
    obtain ⟨m, hm⟩ := hx i hi
    obtain ⟨u0, y0, e0, t0⟩ := hm 0 _ rfl
    obtain ⟨u1, y1, e1, t1⟩ := hm 1 _ rfl
    obtain ⟨b, rfl⟩ := bool_of Try.underlying4 t0
    obtain ⟨z, rfl, wz⟩ := int_of Try.underlying3 t1
    exact ⟨(b, z), fun j hj => by
      match j, hj with
      | 0, _ => exact e0
      | 1, _ => exact e1⟩)
  by_cases h : n ≤ 300
  · by_cases ht : 1 ≤ th ∧ th ≤ 8
    · exact counts_ok th A n cap l W ht.1 ht.2 hl h hr
    · exact counts_bad th A n cap l W (by omega) hl h hr
  · exact counts_great th A n cap W (by omega) hm

set_option maxRecDepth 100000 in
theorem lifted (os : Os) (started : os.Started) (H : Type) (enc : TypeId × Value → H) :
    ReturnsInHanded {} Try.checked os 3 .any (Rows.progressCountsSpec.pre6 enc Try.prog Try.f3 Rows.progressCountsRow.domain false) (Rows.progressCountsSpec.post enc Try.prog Try.f3 false true false false) :=
  law_lifted (C := Try.checked) started own (by kernel_rfl) (by kernel_rfl) Try.func3 (by kernel_rfl) Try.underlying4 (by kernel_rfl)
    ⟨rfl, fun H ds h => by match ds, h with | [d1, d2], _ => exact ⟨rfl, rfl, rfl⟩⟩
    (ChangeSpec.witness6 (enc := enc) (C := Try.checked) false ⟨#[], #[.int .i64 0, .slice none 0 0], []⟩ 8 (by kernel_rfl) (by kernel_rfl) (by kernel_rfl) (by kernel_rfl)) (by rw [Try.params3]; exact walk)

theorem over : Rows.progressCountsRow.holds Try.pinned (OpenSpec.ofChange Rows.progressCountsSpec) :=
  OpenClaim.holds_of_wide 3 Try.f3 rfl rfl rfl rfl rfl rfl rfl ⟨rfl, rfl, rfl, rfl, rfl⟩ rfl rfl rfl rfl rfl (by kernel_rfl) Try.func3 (by kernel_rfl)
    (of_decide_eq_true (by kernel_rfl)) (by unfold Func.isWrapper; first | (rw [if_pos (by decide +kernel)]; kernel_rfl) | (rw [if_neg (by decide +kernel)]; exact ⟨rfl, rfl⟩))
    (fun os started H enc _ => lifted os started H enc)

theorem proved : Rows.ProgressCountsSaid := over
end Go.Proofs.Ytmpbaanlagmacaa.lawCounts
