/- Package redo: undecided, failed; slices.Clone of memory words. -/
import Derived.Test.YtbomhhkknopdpaaGreatDoorR2
import Derived.Test.YtbomhhkknopdpaaGreatDoorBut
namespace Go.Proofs.YtbomhhkknopdpaaGreatDoor
set_option linter.unusedSimpArgs false
set_option linter.unusedVariables false
open Go.RowKit
def undecidedW (x : W3) : Bool := x.v == 0 || x.v == 3
def failedW (x : W3) : W3 := ⟨2, x.r, 0⟩
theorem undecided_any (x : W3) (w : World) : Calls Tryz.prog 26 #[(.agg #[.int .i64 (x).v, .int .u32 (x).r, .int .u32 (x).f])] w fun e w' => e = .returned (.bool (undecidedW x)) ∧ Below w.heap.size w w' := by
  unfold undecidedW
  cases h : (x.v == 0) with
  | true =>
    go_enter Tryz.func26, Tryz.ntmps26
    go_wp2_with fail
    go_ret
    exact ⟨rfl, (by repeat' (first | with_reducible exact Below.refl _ _ | with_reducible assumption | with_reducible refine Below.alloc ?_ ?_ _ | with_reducible refine Below.setCell ?_ ?_ _ | with_reducible refine Below.drew ?_ | with_reducible refine below_drewN ?_ _ | with_reducible refine Below.trans ?_ (Below.mono (by with_reducible assumption) ?_) | omega | (simp <;> omega)))⟩
  | false =>
    go_enter Tryz.func26, Tryz.ntmps26
    go_wp2_with fail
    go_ret
    exact ⟨rfl, (by repeat' (first | with_reducible exact Below.refl _ _ | with_reducible assumption | with_reducible refine Below.alloc ?_ ?_ _ | with_reducible refine Below.setCell ?_ ?_ _ | with_reducible refine Below.drew ?_ | with_reducible refine below_drewN ?_ _ | with_reducible refine Below.trans ?_ (Below.mono (by with_reducible assumption) ?_) | omega | (simp <;> omega)))⟩
theorem failed_any (x : W3) (w : World) (h0 : 0 ≤ x.r) (h1 : x.r < 4294967296) : Calls Tryz.prog 27 #[(.agg #[.int .i64 (x).v, .int .u32 (x).r, .int .u32 (x).f])] w fun e w' => e = .returned (.agg #[.int .i64 2, .int .u32 x.r, .int .u32 0]) ∧ Below w.heap.size w w' := by
  have hw : wrap64 x.r = x.r := by unfold wrap64; omega
  go_enter Tryz.func27, Tryz.ntmps27
  go_wp2_with (first
    | (go_at_call 49; (try rw [hw]); refine (status_any 2 x.r _ h0 h1).mono ?_; rintro e w1 ⟨rfl, hb1⟩; obtain ⟨hcc1, hff1⟩ := bcell hb1; have hs1 := hb1.size; (try simp at hs1); have hz1 : w.heap.size + 1 < w1.heap.size := (by omega)))
  exact bodyPost_ret (v := .agg #[.int .i64 2, .int .u32 x.r, .int .u32 0]) (by simp [results, Tryz.results27, go_sem, hcc1]) rfl ⟨rfl, (by repeat' (first | with_reducible exact Below.refl _ _ | with_reducible assumption | with_reducible refine Below.alloc ?_ ?_ _ | with_reducible refine Below.setCell ?_ ?_ _ | with_reducible refine Below.drew ?_ | with_reducible refine below_drewN ?_ _ | with_reducible refine Below.trans ?_ (Below.mono (by with_reducible assumption) ?_) | omega | (simp <;> omega)))⟩
theorem info_word : (Tryz.prog.info? 62).map (fun i => (i.zero, i.size, i.bytes)) = some (some (.agg #[.int .i64 0, .int .u32 0, .int .u32 0]), 3, 16) := by kernel_rfl
set_option maxRecDepth 100000 in
theorem clonew_any (b n cap : Nat) (ws : List W3) (w : World) (hM : Mem b ws w) (hl : ws.length = n) (hn : 0 < n) (hnm : n ≤ 1000000) :
    Calls Tryz.prog 22 #[.slice (some ⟨b, 0, none⟩) n cap] w fun e w' => ∃ g cap' : Nat, e = .returned (.slice (some ⟨g, 0, none⟩) n cap') ∧ Mem g ws w' ∧ w.heap.size ≤ g ∧ n ≤ cap' ∧ cap' ≤ maxLen ∧ Below w.heap.size w w' := by
  obtain ⟨i0, hi, iz0, iz1, iz2⟩ := info_parts info_word
  have HM := hide hM
  have Hl := hide hl
  have hb := hM.2.2
  have hof := flat_ones ws
  have heq : ∀ W : World, (binOp .eql 25 (.slice (some ⟨b, 0, none⟩) n cap) (.slice none 0 0)).run Tryz.prog W = .ok (.bool false) W := fun W => by kernel_rfl
  clear hM hl
  go_enter Tryz.func22, Tryz.ntmps22
  go_wp2_with (first
    | (at_builtin; refine wpList_append_rd rfl _ _ 25 rfl w.heap.size 62 i0 _ 3 16 Tryz.underlying25 hi iz0 iz1 iz2 rfl (by decide) (.slice (some ⟨w.heap.size, 0, none⟩) 0 0) 0 [] rfl (World.ownsRow_made w #[] 0 (Nat.le_refl _) (Nat.zero_le _) rfl) (some ⟨b, 0, none⟩) n cap (ws.flatMap w3c) rfl _ (by have h := (HM.out.below (w' := w.alloc (.cells #[] 62)) (B := w.heap.size) (by repeat' (first | with_reducible exact Below.refl _ _ | with_reducible assumption | with_reducible refine Below.alloc ?_ ?_ _ | with_reducible refine Below.setCell ?_ ?_ _ | with_reducible refine Below.drew ?_ | with_reducible refine below_drewN ?_ _ | with_reducible refine Below.trans ?_ (Below.mono (by with_reducible assumption) ?_) | omega | (simp <;> omega))) hb).rd; rw [Hl.out] at h; exact h) hof (by unfold maxLen; omega) (by omega) (by simp) w.heap.size w (by repeat' (first | with_reducible exact Below.refl _ _ | with_reducible assumption | with_reducible refine Below.alloc ?_ ?_ _ | with_reducible refine Below.setCell ?_ ?_ _ | with_reducible refine Below.drew ?_ | with_reducible refine below_drewN ?_ _ | with_reducible refine Below.trans ?_ (Below.mono (by with_reducible assumption) ?_) | omega | (simp <;> omega))) (Nat.le_refl _) ?_; intro v' w6 hown6 hb6 hsz6))
  rw [Nat.zero_add, List.nil_append] at hown6
  obtain ⟨A, cap', rfl, hcp, hbl⟩ := own_slice hown6
  have hcm := own_cap hown6
  have hf := hown6.2
  rcases hf with ⟨-, h0⟩ | ⟨g, cap2, cur, e2, -⟩
  · omega
  injection e2 with e2 e3 e4
  subst e2 e4
  obtain ⟨hMg, hg, -⟩ := Mem.of_own hown6 hn
  go_wp2_with fail
  go_ret
  exact ⟨g, cap', rfl, hMg, hg, hcp, hcm, (by repeat' (first | with_reducible exact Below.refl _ _ | with_reducible assumption | with_reducible refine Below.alloc ?_ ?_ _ | with_reducible refine Below.setCell ?_ ?_ _ | with_reducible refine Below.drew ?_ | with_reducible refine below_drewN ?_ _ | with_reducible refine Below.trans ?_ (Below.mono (by with_reducible assumption) ?_) | omega | (simp <;> omega)))⟩
end Go.Proofs.YtbomhhkknopdpaaGreatDoor
