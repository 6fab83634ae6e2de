/- The contracts of package advise: New, Fail, Win, Rest, Heat, over counts told as functions. -/
import Derived.Test.YtfldjbojonbmpaaA1
import Derived.Deep.RegionHeld3
import Derived.StillTactics
namespace Go.Proofs.Ytfldjbojonbmpaa
open Go.RowKit Go.Maps

/-- An advisor's two maps. -/
def AdvR (w : World) (v1 v2 : Option Nat) (n : Nat) (f h : Int → Int) : Prop := MapF w 3 v1 n f ∧ MapF w 32 v2 n h
theorem AdvR.below {w w' : World} {v1 v2 : Option Nat} {n : Nat} {f h : Int → Int} (a : AdvR w v1 v2 n f h) (hb : Below w.heap.size w w') : AdvR w' v1 v2 n f h := ⟨a.1.below hb, a.2.below hb⟩

set_option maxHeartbeats 400000 in
theorem fail_no (th t at_ : Int) (v1 v2 : Option Nat) (w : World) (h : t < 1 ∨ th < t) :
    Calls Try.prog 14 #[.agg #[.int .i64 th, .map v1, .map v2], .int .i64 t, .int .i64 at_] w fun e w' => e = .returned (.agg #[.int .i64 th, .map v1, .map v2]) ∧ Below w.heap.size w w' := by
  by_cases h1 : t < 1
  case neg =>
    have hd : decide (t ≤ th) = false := by simp; omega
    have h2 : 1 ≤ t := by omega
    clear h h1
    go_enter Try.func14, Try.ntmps14
    go_wp2
    exact bodyPost_ret (v := .agg #[.int .i64 th, .map v1, .map v2]) (by simp [results, Try.results14, go_sem]) rfl ⟨rfl, (by repeat' (first | with_reducible exact Below.refl _ _ | with_reducible assumption | with_reducible refine Below.alloc ?_ ?_ _ | with_reducible refine Below.setCell ?_ ?_ _ | with_reducible refine Below.drew ?_ | with_reducible refine below_drewN ?_ _ | with_reducible refine Below.trans ?_ (Below.mono (by with_reducible assumption) ?_) | omega | (simp <;> omega)))⟩
  case pos =>
    go_enter Try.func14, Try.ntmps14
    go_wp2
    exact bodyPost_ret (v := .agg #[.int .i64 th, .map v1, .map v2]) (by simp [results, Try.results14, go_sem]) rfl ⟨rfl, (by repeat' (first | with_reducible exact Below.refl _ _ | with_reducible assumption | with_reducible refine Below.alloc ?_ ?_ _ | with_reducible refine Below.setCell ?_ ?_ _ | with_reducible refine Below.drew ?_ | with_reducible refine below_drewN ?_ _ | with_reducible refine Below.trans ?_ (Below.mono (by with_reducible assumption) ?_) | omega | (simp <;> omega)))⟩

set_option maxHeartbeats 1000000 in
theorem fail_yes (th t at_ : Int) (v1 v2 : Option Nat) (n : Nat) (f h : Int → Int) (w : World) (ht : 1 ≤ t) (hth : t ≤ th) (h8 : th ≤ 8) (wa : (Lit.int .i64 at_).wf = true) (ha : AdvR w v1 v2 n f h) (hn : n ≤ 1000)
    (f0 : 0 ≤ f t) (f1 : f t ≤ 1000) (g0 : 0 ≤ h at_) (g1 : h at_ ≤ 1000) :
    Calls Try.prog 14 #[.agg #[.int .i64 th, .map v1, .map v2], .int .i64 t, .int .i64 at_] w fun e w' => ∃ v1' v2', e = .returned (.agg #[.int .i64 th, .map v1', .map v2']) ∧ AdvR w' v1' v2' (n + 1) (upd f t (f t + 1)) (upd h at_ (h at_ + 1)) ∧ Below w.heap.size w w' := by
  obtain ⟨ha1, ha2⟩ := ha
  have wt : (Lit.int .i64 t).wf = true := WalkArith.wf_i64 (by omega)
  go_enter Try.func14, Try.ntmps14
  go_wp2
  go_region_held3 (fun w' => w'.cell? ⟨w.heap.size, 0, none⟩ = some (.int .i64 th) ∧ w'.cell? ⟨w.heap.size, 1, none⟩ = some (.map v1) ∧ w'.cell? ⟨w.heap.size, 2, none⟩ = some (.map v2)) (first | exact ⟨by go_simp, by go_simp, by go_simp⟩ | go_keep)
    (first
      | (go_at_call 23; refine (more_int v1 n f t _ (ha1.below (by repeat' (first | with_reducible exact Below.refl _ _ | with_reducible assumption | with_reducible refine Below.alloc ?_ ?_ _ | with_reducible refine Below.setCell ?_ ?_ _ | with_reducible refine Below.drew ?_ | with_reducible refine below_drewN ?_ _ | with_reducible refine Below.trans ?_ (Below.mono (by with_reducible assumption) ?_) | omega | (simp <;> omega)))) hn wt f0 f1).mono ?_; rintro e w1 ⟨v1', rfl, hm1, hb1⟩; obtain ⟨hc1, hf1⟩ := bcell hb1; have hy1 : w.heap.size < w1.heap.size := (by have h := hb1.size; (try simp at h); omega); have hy2 : w.heap.size + 1 < w1.heap.size := (by have h := hb1.size; (try simp at h); omega))
      | (go_at_call 24; refine (more_loc v2 n h at_ _ (ha2.below (by repeat' (first | with_reducible exact Below.refl _ _ | with_reducible assumption | with_reducible refine Below.alloc ?_ ?_ _ | with_reducible refine Below.setCell ?_ ?_ _ | with_reducible refine Below.drew ?_ | with_reducible refine below_drewN ?_ _ | with_reducible refine Below.trans ?_ (Below.mono (by with_reducible assumption) ?_) | omega | (simp <;> omega)))) hn wa g0 g1).mono ?_; rintro e w2 ⟨v2', rfl, hm2, hb2⟩; obtain ⟨hc2, hf2⟩ := bcell hb2; have hy3 : w.heap.size < w2.heap.size := (by have h := hb2.size; (try simp at h); omega); have hy4 : w.heap.size + 1 < w2.heap.size := (by have h := hb2.size; (try simp at h); omega)))
  go_wp2
  have e0 : w2.cell? ⟨w.heap.size + 1, 0, none⟩ = some (.int .i64 0) := by go_simp
  have e1 : w2.cell? ⟨w.heap.size + 1, 1, none⟩ = some (.map none) := by go_simp
  have e2 : w2.cell? ⟨w.heap.size + 1, 2, none⟩ = some (.map none) := by go_simp
  refine bodyPost_ret (v := .agg #[.int .i64 th, .map v1', .map v2']) (by simp [results, Try.results14, go_sem, e0, e1, e2]) rfl ⟨v1', v2', rfl, ⟨?_, ?_⟩, (by repeat' (first | with_reducible exact Below.refl _ _ | with_reducible assumption | with_reducible refine Below.alloc ?_ ?_ _ | with_reducible refine Below.setCell ?_ ?_ _ | with_reducible refine Below.drew ?_ | with_reducible refine below_drewN ?_ _ | with_reducible refine Below.trans ?_ (Below.mono (by with_reducible assumption) ?_) | omega | (simp <;> omega)))⟩
  · exact (hm1.below hb2).set3 e0 e1 e2 _ _ _
  · exact hm2.set3 e0 e1 e2 _ _ _

set_option maxHeartbeats 400000 in
theorem win_no (th t : Int) (v1 v2 : Option Nat) (w : World) (h : t < 1 ∨ th < t) :
    Calls Try.prog 16 #[.agg #[.int .i64 th, .map v1, .map v2], .int .i64 t] w fun e w' => e = .returned (.agg #[.int .i64 th, .map v1, .map v2]) ∧ Below w.heap.size w w' := by
  by_cases h1 : t < 1
  case neg =>
    have hd : decide (t ≤ th) = false := by simp; omega
    have h2 : 1 ≤ t := by omega
    clear h h1
    go_enter Try.func16, Try.ntmps16
    go_wp2
    exact bodyPost_ret (v := .agg #[.int .i64 th, .map v1, .map v2]) (by simp [results, Try.results16, go_sem]) rfl ⟨rfl, (by repeat' (first | with_reducible exact Below.refl _ _ | with_reducible assumption | with_reducible refine Below.alloc ?_ ?_ _ | with_reducible refine Below.setCell ?_ ?_ _ | with_reducible refine Below.drew ?_ | with_reducible refine below_drewN ?_ _ | with_reducible refine Below.trans ?_ (Below.mono (by with_reducible assumption) ?_) | omega | (simp <;> omega)))⟩
  case pos =>
    go_enter Try.func16, Try.ntmps16
    go_wp2
    exact bodyPost_ret (v := .agg #[.int .i64 th, .map v1, .map v2]) (by simp [results, Try.results16, go_sem]) rfl ⟨rfl, (by repeat' (first | with_reducible exact Below.refl _ _ | with_reducible assumption | with_reducible refine Below.alloc ?_ ?_ _ | with_reducible refine Below.setCell ?_ ?_ _ | with_reducible refine Below.drew ?_ | with_reducible refine below_drewN ?_ _ | with_reducible refine Below.trans ?_ (Below.mono (by with_reducible assumption) ?_) | omega | (simp <;> omega)))⟩

theorem is_yes (th t : Int) (v1 v2 : Option Nat) (w : World) (ht : 1 ≤ t) (hth : t ≤ th) :
    Calls Try.prog 22 #[.agg #[.int .i64 th, .map v1, .map v2], .int .i64 t] w fun e w' => e = .returned (.bool true) ∧ Below w.heap.size w w' := by
  go_enter Try.func22, Try.ntmps22
  go_wp2
  go_ret
  exact ⟨rfl, (by repeat' (first | with_reducible exact Below.refl _ _ | with_reducible assumption | with_reducible refine Below.alloc ?_ ?_ _ | with_reducible refine Below.setCell ?_ ?_ _ | with_reducible refine Below.drew ?_ | with_reducible refine below_drewN ?_ _ | with_reducible refine Below.trans ?_ (Below.mono (by with_reducible assumption) ?_) | omega | (simp <;> omega)))⟩
theorem is_no (th t : Int) (v1 v2 : Option Nat) (w : World) (h : t < 1 ∨ th < t) :
    Calls Try.prog 22 #[.agg #[.int .i64 th, .map v1, .map v2], .int .i64 t] w fun e w' => e = .returned (.bool false) ∧ Below w.heap.size w w' := by
  by_cases h1 : t < 1
  case neg =>
    have hd : decide (t ≤ th) = false := by simp; omega
    have h2 : 1 ≤ t := by omega
    clear h h1
    go_enter Try.func22, Try.ntmps22
    go_wp2
    go_ret
    exact ⟨rfl, (by repeat' (first | with_reducible exact Below.refl _ _ | with_reducible assumption | with_reducible refine Below.alloc ?_ ?_ _ | with_reducible refine Below.setCell ?_ ?_ _ | with_reducible refine Below.drew ?_ | with_reducible refine below_drewN ?_ _ | with_reducible refine Below.trans ?_ (Below.mono (by with_reducible assumption) ?_) | omega | (simp <;> omega)))⟩
  case pos =>
    go_enter Try.func22, Try.ntmps22
    go_wp2
    go_ret
    exact ⟨rfl, (by repeat' (first | with_reducible exact Below.refl _ _ | with_reducible assumption | with_reducible refine Below.alloc ?_ ?_ _ | with_reducible refine Below.setCell ?_ ?_ _ | with_reducible refine Below.drew ?_ | with_reducible refine below_drewN ?_ _ | with_reducible refine Below.trans ?_ (Below.mono (by with_reducible assumption) ?_) | omega | (simp <;> omega)))⟩

set_option maxHeartbeats 1000000 in
theorem win_yes (th t : Int) (v1 v2 : Option Nat) (n : Nat) (f h : Int → Int) (w : World) (ht : 1 ≤ t) (hth : t ≤ th) (h8 : th ≤ 8) (ha : AdvR w v1 v2 n f h) :
    Calls Try.prog 16 #[.agg #[.int .i64 th, .map v1, .map v2], .int .i64 t] w fun e w' => ∃ v1', e = .returned (.agg #[.int .i64 th, .map v1', .map v2]) ∧ AdvR w' v1' v2 n (upd f t 0) h ∧ Below w.heap.size w w' := by
  obtain ⟨ha1, ha2⟩ := ha
  have wt : (Lit.int .i64 t).wf = true := WalkArith.wf_i64 (by omega)
  go_enter Try.func16, Try.ntmps16
  go_wp2_with fail
  refine (is_yes th t v1 v2 _ ht hth).mono ?_
  rintro e w0 ⟨rfl, hb0⟩
  obtain ⟨hc0, hf0⟩ := bcell hb0
  have hy01 : w.heap.size < w0.heap.size := (by have h := hb0.size; (try simp at h); omega)
  have hy02 : w.heap.size + 1 < w0.heap.size := (by have h := hb0.size; (try simp at h); omega)
  go_wp2_with fail
  refine (clone_int v1 n f _ (ha1.below (by repeat' (first | with_reducible exact Below.refl _ _ | with_reducible assumption | with_reducible refine Below.alloc ?_ ?_ _ | with_reducible refine Below.setCell ?_ ?_ _ | with_reducible refine Below.drew ?_ | with_reducible refine below_drewN ?_ _ | with_reducible refine Below.trans ?_ (Below.mono (by with_reducible assumption) ?_) | omega | (simp <;> omega))))).mono ?_
  rintro e w1 ⟨v1', rfl, hv, hm, hb1⟩
  have hm0 := hm
  obtain ⟨hc1, hf1⟩ := bcell hb1
  have hy1 : w.heap.size < w1.heap.size := (by have h := hb1.size; (try simp at h); omega)
  have hy2 : w.heap.size + 1 < w1.heap.size := (by have h := hb1.size; (try simp at h); omega)
  have hdn := fun (w : World) (ty : TypeId) => Maps.drop_nil (P := Try.prog) (w := w) law_int Try.underlying50 (keyOf_int_mk Try.underlying3 wt) ty
  rcases hm with ⟨rfl, hf⟩ | ⟨b, D, rfl, hown, hi, hf⟩
  · have Hf := hide hf
    clear hf
    go_wp2
    have e0 : w1.cell? ⟨w.heap.size + 1, 0, none⟩ = some (.int .i64 0) := by go_simp
    have e1 : w1.cell? ⟨w.heap.size + 1, 1, none⟩ = some (.map none) := by go_simp
    have e2 : w1.cell? ⟨w.heap.size + 1, 2, none⟩ = some (.map none) := by go_simp
    have hB2 : MapF w1 32 v2 n h := ha2.below (by repeat' (first | with_reducible exact Below.refl _ _ | with_reducible assumption | with_reducible refine Below.alloc ?_ ?_ _ | with_reducible refine Below.setCell ?_ ?_ _ | with_reducible refine Below.drew ?_ | with_reducible refine below_drewN ?_ _ | with_reducible refine Below.trans ?_ (Below.mono (by with_reducible assumption) ?_) | omega | (simp <;> omega)))
    refine bodyPost_ret (v := .agg #[.int .i64 th, .map none, .map v2]) (by simp [results, Try.results16, go_sem, e0, e1, e2]) rfl ⟨none, rfl, ⟨.inl ⟨rfl, fun z => ?_⟩, hB2.set3 e0 e1 e2 _ _ _⟩, (by repeat' (first | with_reducible exact Below.refl _ _ | with_reducible assumption | with_reducible refine Below.alloc ?_ ?_ _ | with_reducible refine Below.setCell ?_ ?_ _ | with_reducible refine Below.drew ?_ | with_reducible refine below_drewN ?_ _ | with_reducible refine Below.trans ?_ (Below.mono (by with_reducible assumption) ?_) | omega | (simp <;> omega)))⟩
    unfold upd
    split
    · rfl
    · exact Hf.out z
  · obtain rfl : b = w0.heap.size := by
      rcases hv with hv | hv
      · cases hv
      · cases hv
        rfl
    have Hf := hide hf
    clear hf hv
    go_wp2_with (at_delete; refine wpList_delete_own _ rfl _ _ 50 3 rfl 3 law_int Try.underlying50 _ w0.heap.size n D rfl hown _ _ rfl (keyOf_int_mk Try.underlying3 wt) ?_; intro w2 hown2 hturn; have hb2 : Below w0.heap.size w1 w2 := (Below.refl _ _).grown hturn.grown hb1.size (fun k hk => by cases hk; exact Nat.le_refl _); obtain ⟨hc2, hf2⟩ := bcellB hb2; have hy5 : w.heap.size < w2.heap.size := (by have h := hb2.size; omega); have hy6 : w.heap.size + 1 < w2.heap.size := (by have h := hb2.size; omega))
    have e0 : w2.cell? ⟨w.heap.size + 1, 0, none⟩ = some (.int .i64 0) := by go_simp
    have e1 : w2.cell? ⟨w.heap.size + 1, 1, none⟩ = some (.map none) := by go_simp
    have e2 : w2.cell? ⟨w.heap.size + 1, 2, none⟩ = some (.map none) := by go_simp
    have hM1 : MapF w2 3 (some w0.heap.size) n (upd f t 0) := .inr ⟨_, _, rfl, hown2, hi.del _, reads_del Hf.out t⟩
    have hM0 : MapF w0 32 v2 n h := ha2.below (by repeat' (first | with_reducible exact Below.refl _ _ | with_reducible assumption | with_reducible refine Below.alloc ?_ ?_ _ | with_reducible refine Below.setCell ?_ ?_ _ | with_reducible refine Below.drew ?_ | with_reducible refine below_drewN ?_ _ | with_reducible refine Below.trans ?_ (Below.mono (by with_reducible assumption) ?_) | omega | (simp <;> omega)))
    have hM2 : MapF w2 32 v2 n h := hM0.below (hb1.trans hb2)
    exact bodyPost_ret (v := .agg #[.int .i64 th, .map (some w0.heap.size), .map v2]) (by simp [results, Try.results16, go_sem, e0, e1, e2]) rfl ⟨_, rfl, ⟨hM1.set3 e0 e1 e2 _ _ _, hM2.set3 e0 e1 e2 _ _ _⟩, (by repeat' (first | with_reducible exact Below.refl _ _ | with_reducible assumption | with_reducible refine Below.alloc ?_ ?_ _ | with_reducible refine Below.setCell ?_ ?_ _ | with_reducible refine Below.drew ?_ | with_reducible refine below_drewN ?_ _ | with_reducible refine Below.trans ?_ (Below.mono (by with_reducible assumption) ?_) | omega | (simp <;> omega)))⟩
end Go.Proofs.Ytfldjbojonbmpaa
