/- AdviseNotes: for every number of threads and every list of failures and successes Rest and Heat agree with the reference. No condition. -/
import Derived.Test.YtmpbaanlagmacaaRows
import Derived.Test.YtmpbaanlagmacaaFr
import Derived.Test.YtmpbaanlagmacaaA6
namespace Go.Proofs.Ytmpbaanlagmacaa.lawNotes
open Go.ChangeShapes Go.WideShapes Go.ChangeAt Go.RowKit Go.Maps

theorem own : ownKnob Try.prog.godebug = none := by kernel_rfl

set_option maxHeartbeats 2000000 in
set_option maxRecDepth 100000 in
theorem notes_ok (th at_ : Int) (A : Option Addr) (n cap : Nat) (l : List (Int × Bool × Int)) (w : World) (ht1 : 1 ≤ th) (ht2 : th ≤ 8) (hn : l.length = n) (h200 : n ≤ 200) (hwf : ∀ x ∈ l, (Lit.int .i64 x.1).wf = true ∧ (Lit.int .i64 x.2.2).wf = true)
    (wa : (Lit.int .i64 at_).wf = true) (hr : Rd w w.heap.size 3 A n (l.flatMap notec)) :
    Calls Try.prog 6 #[.int .i64 th, .slice A n cap, .int .i64 at_] w fun e w' => e = .returned (.bool true) ∧ Below w.heap.size w w' := by
  have Wa := hide wa
  have Hn := hide hn
  have Hwf := hide hwf
  clear wa hn hwf
  have hnb := nfold_bd th l
  rw [Hn.out] at hnb
  go_enter Try.func6, Try.ntmps6
  go_wp2_with fail
  refine (awake52_any _).mono ?_
  rintro e w0 ⟨rfl, hb0⟩
  have hz0 := hb0.size
  go_wp2_with fail
  refine (noted_ok th A n cap l w.heap.size _ ht1 ht2 Hn.out (by omega) Hwf.out (by omega) (hr.below hb0)).mono ?_
  rintro e w1 ⟨v1, v2, rfl, hadv, hb1⟩
  have hz1 := hb1.size
  generalize hF : nfold th l = F at hadv hnb
  have HF := hide hF
  clear hF
  obtain ⟨hnb1, hnb2⟩ := hnb
  have Hnb1 := hide hnb1
  clear hnb1 hnb2
  go_wp2_with fail
  go_loopw [10] (fun i wr => ∃ t : Int, -1 ≤ t ∧ t ≤ 11 ∧ i = .int .i64 t ∧ AdvC w1.heap.size th v1 v2 wr ∧ AdvR wr v1 v2 n F.1 F.2 ∧ Below w.heap.size w wr)
    (fun i _ => (11 - intOf i).toNat)
  case atStart =>
    exact ⟨-1, by omega, by omega, rfl, by unfold AdvC; simp, hadv.below (by repeat' (first | with_reducible exact Below.refl _ _ | with_reducible assumption | with_reducible refine Below.alloc ?_ ?_ _ | with_reducible refine Below.setCell ?_ ?_ _ | with_reducible refine Below.drew ?_ | with_reducible refine Below.trans ?_ (Below.mono (by with_reducible assumption) ?_) | omega | (simp <;> omega))), (by repeat' (first | with_reducible exact Below.refl _ _ | with_reducible assumption | with_reducible refine Below.alloc ?_ ?_ _ | with_reducible refine Below.setCell ?_ ?_ _ | with_reducible refine Below.drew ?_ | with_reducible refine Below.trans ?_ (Below.mono (by with_reducible assumption) ?_) | omega | (simp <;> omega)))⟩
  case round =>
    obtain ⟨t, ht3, ht4, rfl, ⟨c0, c1, c2, f0, f1, f2, hz⟩, had, hB⟩ := hrel
    by_cases hle : t ≤ 10
    · by_cases hv : 1 ≤ t ∧ t ≤ th
      · obtain ⟨hv1, hv2⟩ := hv
        go_wp2_with (first
          | (go_at_call 27; refine (rest_in th t v1 v2 n F.1 F.2 _ hv1 hv2 ht2 (had.below (by repeat' (first | with_reducible exact Below.refl _ _ | with_reducible assumption | with_reducible refine Below.alloc ?_ ?_ _ | with_reducible refine Below.setCell ?_ ?_ _ | with_reducible refine Below.drew ?_ | with_reducible refine Below.trans ?_ (Below.mono (by with_reducible assumption) ?_) | omega | (simp <;> omega)))) (Hnb1.out t).1).mono ?_; rintro e w2 ⟨rfl, hb2⟩; obtain ⟨hc2, hf2⟩ := bcell hb2; have hy2 : w1.heap.size < w2.heap.size := (by have h := hb2.size; omega))
          | (go_at_call 28; refine (refrest_in th t A n cap l w.heap.size _ hv1 hv2 ht2 Hn.out (by omega) (hr.below (by repeat' (first | with_reducible exact Below.refl _ _ | with_reducible assumption | with_reducible refine Below.alloc ?_ ?_ _ | with_reducible refine Below.setCell ?_ ?_ _ | with_reducible refine Below.drew ?_ | with_reducible refine Below.trans ?_ (Below.mono (by with_reducible assumption) ?_) | omega | (simp <;> omega))))).mono ?_; rintro e w3 ⟨rfl, rfl⟩; rw [HF.out]))
        exact ⟨⟨t + 1, by omega, by omega, rfl, AdvC.below ⟨c0, c1, c2, f0, f1, f2, hz⟩ hb2, had.below hb2, hB.trans (hb2.mono hB.size)⟩, by simp [intOf]; omega⟩
      · have hv0 : t < 1 ∨ th < t := by omega
        have hv := hide hv0
        clear hv0
        go_wp2_with (first
          | (go_at_call 27; refine (rest_out th t v1 v2 n F.1 F.2 _ hv.out (WalkArith.wf_i64 (by omega)) (had.below (by repeat' (first | with_reducible exact Below.refl _ _ | with_reducible assumption | with_reducible refine Below.alloc ?_ ?_ _ | with_reducible refine Below.setCell ?_ ?_ _ | with_reducible refine Below.drew ?_ | with_reducible refine Below.trans ?_ (Below.mono (by with_reducible assumption) ?_) | omega | (simp <;> omega))))).mono ?_; rintro e w2 ⟨rfl, hb2⟩; obtain ⟨hc2, hf2⟩ := bcell hb2; have hy2 : w1.heap.size < w2.heap.size := (by have h := hb2.size; omega))
          | (go_at_call 28; refine (refrest_out th t A n cap _ hv.out).mono ?_; rintro e w3 ⟨rfl, rfl⟩))
        exact ⟨⟨t + 1, by omega, by omega, rfl, AdvC.below ⟨c0, c1, c2, f0, f1, f2, hz⟩ hb2, had.below hb2, hB.trans (hb2.mono hB.size)⟩, by simp [intOf]; omega⟩
    · go_wp2_with (first
        | (go_at_call 29; refine (heat_any th at_ v1 v2 n F.1 F.2 _ Wa.out (had.below (by repeat' (first | with_reducible exact Below.refl _ _ | with_reducible assumption | with_reducible refine Below.alloc ?_ ?_ _ | with_reducible refine Below.setCell ?_ ?_ _ | with_reducible refine Below.drew ?_ | with_reducible refine Below.trans ?_ (Below.mono (by with_reducible assumption) ?_) | omega | (simp <;> omega))))).mono ?_; rintro e w2 ⟨rfl, hb2⟩; obtain ⟨hc2, hf2⟩ := bcell hb2; have hy2 : w1.heap.size < w2.heap.size := (by have h := hb2.size; omega))
        | (go_at_call 30; refine (refheat_any th at_ A n cap l w.heap.size _ Hn.out (by omega) (hr.below (by repeat' (first | with_reducible exact Below.refl _ _ | with_reducible assumption | with_reducible refine Below.alloc ?_ ?_ _ | with_reducible refine Below.setCell ?_ ?_ _ | with_reducible refine Below.drew ?_ | with_reducible refine Below.trans ?_ (Below.mono (by with_reducible assumption) ?_) | omega | (simp <;> omega))))).mono ?_; rintro e w3 ⟨rfl, rfl⟩; rw [HF.out]))
      go_ret
      exact ⟨rfl, (by repeat' (first | with_reducible exact Below.refl _ _ | with_reducible assumption | with_reducible refine Below.alloc ?_ ?_ _ | with_reducible refine Below.setCell ?_ ?_ _ | with_reducible refine Below.drew ?_ | with_reducible refine Below.trans ?_ (Below.mono (by with_reducible assumption) ?_) | omega | (simp <;> omega)))⟩

set_option maxHeartbeats 2000000 in
set_option maxRecDepth 100000 in
theorem notes_bad (th at_ : Int) (A : Option Addr) (n cap : Nat) (l : List (Int × Bool × Int)) (w : World) (ht : th < 1 ∨ 8 < th) (hn : l.length = n) (h200 : n ≤ 200)
    (wa : (Lit.int .i64 at_).wf = true) (hr : Rd w w.heap.size 3 A n (l.flatMap notec)) :
    Calls Try.prog 6 #[.int .i64 th, .slice A n cap, .int .i64 at_] w fun e w' => e = .returned (.bool true) ∧ Below w.heap.size w w' := by
  have Wa := hide wa
  have Hn := hide hn
  have HF : Hid (nfold 0 l = (fun _ => 0, fun _ => 0)) := by
    unfold Hid
    refine snoc_ind (P := fun l => nfold 0 l = (fun _ => 0, fun _ => 0)) rfl ?_ l
    intro l x ih
    rw [nfold_snoc, ih, nstep, if_neg (by omega)]
  clear wa hn
  rcases ht with ht1 | ht1
  all_goals
    go_enter Try.func6, Try.ntmps6
    go_wp2_with fail
    refine (awake52_any _).mono ?_
    rintro e w0 ⟨rfl, hb0⟩
    have hz0 := hb0.size
    go_wp2_with fail
    refine (noted_bad th A n cap l w.heap.size _ (by omega) Hn.out (by omega) (by omega) (hr.below hb0)).mono ?_
    rintro e w1 ⟨rfl, hb1⟩
    have hz1 := hb1.size
    go_wp2_with fail
    go_loopw [10] (fun i wr => ∃ t : Int, -1 ≤ t ∧ t ≤ 11 ∧ i = .int .i64 t ∧ AdvC w1.heap.size 0 none none wr ∧ Below w.heap.size w wr)
      (fun i _ => (11 - intOf i).toNat)
    case atStart =>
      exact ⟨-1, by omega, by omega, rfl, by unfold AdvC; simp, (by repeat' (first | with_reducible exact Below.refl _ _ | with_reducible assumption | with_reducible refine Below.alloc ?_ ?_ _ | with_reducible refine Below.setCell ?_ ?_ _ | with_reducible refine Below.drew ?_ | with_reducible refine Below.trans ?_ (Below.mono (by with_reducible assumption) ?_) | omega | (simp <;> omega)))⟩
    case round =>
      obtain ⟨t, ht3, ht4, rfl, ⟨c0, c1, c2, f0, f1, f2, hz⟩, hB⟩ := hrel
      by_cases hle : t ≤ 10
      · have hv0 : t < 1 ∨ 0 < t := by omega
        have hv := hide hv0
        clear hv0
        go_wp2_with (first
          | (go_at_call 27; refine (rest_out 0 t none none 0 (fun _ => 0) (fun _ => 0) _ hv.out (WalkArith.wf_i64 (by omega)) ⟨MapF.nil _ _ _, MapF.nil _ _ _⟩).mono ?_; rintro e w2 ⟨rfl, hb2⟩; obtain ⟨hc2, hf2⟩ := bcell hb2; have hy2 : w1.heap.size < w2.heap.size := (by have h := hb2.size; omega))
          | (go_at_call 28; refine (refrest_out 0 t A n cap _ hv.out).mono ?_; rintro e w3 ⟨rfl, rfl⟩))
        exact ⟨⟨t + 1, by omega, by omega, rfl, AdvC.below ⟨c0, c1, c2, f0, f1, f2, hz⟩ hb2, hB.trans (hb2.mono hB.size)⟩, by simp [intOf]; omega⟩
      · go_wp2_with (first
          | (go_at_call 29; refine (heat_any 0 at_ none none 0 (fun _ => 0) (fun _ => 0) _ Wa.out ⟨MapF.nil _ _ _, MapF.nil _ _ _⟩).mono ?_; rintro e w2 ⟨rfl, hb2⟩; obtain ⟨hc2, hf2⟩ := bcell hb2; have hy2 : w1.heap.size < w2.heap.size := (by have h := hb2.size; omega))
          | (go_at_call 30; refine (refheat_any 0 at_ A n cap l w.heap.size _ Hn.out (by omega) (hr.below (by repeat' (first | with_reducible exact Below.refl _ _ | with_reducible assumption | with_reducible refine Below.alloc ?_ ?_ _ | with_reducible refine Below.setCell ?_ ?_ _ | with_reducible refine Below.drew ?_ | with_reducible refine Below.trans ?_ (Below.mono (by with_reducible assumption) ?_) | omega | (simp <;> omega))))).mono ?_; rintro e w3 ⟨rfl, rfl⟩; rw [HF.out]))
        go_ret
        exact ⟨rfl, (by repeat' (first | with_reducible exact Below.refl _ _ | with_reducible assumption | with_reducible refine Below.alloc ?_ ?_ _ | with_reducible refine Below.setCell ?_ ?_ _ | with_reducible refine Below.drew ?_ | with_reducible refine Below.trans ?_ (Below.mono (by with_reducible assumption) ?_) | omega | (simp <;> omega)))⟩

theorem notes_great (th at_ : Int) (A : Option Addr) (n cap : Nat) (w : World) (h200 : 200 < n) (hm : n ≤ maxLen) :
    Calls Try.prog 6 #[.int .i64 th, .slice A n cap, .int .i64 at_] w fun e w' => e = .returned (.bool true) ∧ Below w.heap.size w w' := by
  unfold maxLen at hm
  go_enter Try.func6, Try.ntmps6
  go_wp2_with (go_at_call 25; refine (awake52_any _).mono ?_; rintro e w2 ⟨rfl, hb⟩)
  go_ret
  exact ⟨rfl, hb⟩

set_option maxRecDepth 100000 in
theorem walk : LawWalk Try.prog 6 #[3, 43, 44] := by
  intro H enc W base args ds p hval hA hlt
  obtain ⟨v0, v1, v2, d0, d1, d2, p0, p1, p2, rfl, rfl, rfl, h0, h1, h2⟩ := trodAll_three hA
  obtain ⟨th, rfl, rfl, rfl, wt⟩ := open_int Try.underlying3 (hval 0 3 v0 rfl rfl) h0
  obtain ⟨at_, rfl, rfl, rfl, wa⟩ := open_int Try.underlying44 (hval 2 44 v2 rfl rfl) h2
  obtain ⟨A, n, cap, l, rfl, hm, hl, hr, hwf⟩ := rd_notes (hval 1 43 v1 rfl rfl) h1
  by_cases h : n ≤ 200
  · by_cases ht : 1 ≤ th ∧ th ≤ 8
    · exact notes_ok th at_ A n cap l W ht.1 ht.2 hl h hwf wa hr
    · exact notes_bad th at_ A n cap l W (by omega) hl h wa hr
  · exact notes_great th at_ A n cap W (by omega) hm

set_option maxRecDepth 100000 in
theorem lifted (os : Os) (started : os.Started) (H : Type) (enc : TypeId × Value → H) :
    ReturnsInHanded {} Try.checked os 6 .any (Rows.adviseNotesSpec.pre6 enc Try.prog Try.f6 Rows.adviseNotesRow.domain false) (Rows.adviseNotesSpec.post enc Try.prog Try.f6 false true false false) :=
  law_lifted (C := Try.checked) started own (by kernel_rfl) (by kernel_rfl) Try.func6 (by kernel_rfl) Try.underlying4 (by kernel_rfl)
    ⟨rfl, fun H ds h => by match ds, h with | [d1, d2, d3], _ => exact ⟨rfl, rfl, rfl⟩⟩
    (ChangeSpec.witness6 (enc := enc) (C := Try.checked) false ⟨#[], #[.int .i64 0, .slice none 0 0, .int .i64 0], []⟩ 8 (by kernel_rfl) (by kernel_rfl) (by kernel_rfl) (by kernel_rfl)) (by rw [Try.params6]; exact walk)

theorem over : Rows.adviseNotesRow.holds Try.pinned (OpenSpec.ofChange Rows.adviseNotesSpec) :=
  OpenClaim.holds_of_wide 6 Try.f6 rfl rfl rfl rfl rfl rfl rfl ⟨rfl, rfl, rfl, rfl, rfl⟩ rfl rfl rfl rfl rfl (by kernel_rfl) Try.func6 (by kernel_rfl)
    (of_decide_eq_true (by kernel_rfl)) (by unfold Func.isWrapper; first | (rw [if_pos (by decide +kernel)]; kernel_rfl) | (rw [if_neg (by decide +kernel)]; exact ⟨rfl, rfl⟩))
    (fun os started H enc _ => lifted os started H enc)

theorem proved : Rows.AdviseNotesSaid := over
end Go.Proofs.Ytmpbaanlagmacaa.lawNotes
