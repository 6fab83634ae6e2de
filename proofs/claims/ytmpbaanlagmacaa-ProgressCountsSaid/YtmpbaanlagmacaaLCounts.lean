/- ProgressCounts: for every number of threads and every list of events the counters agree with the reference's Count over the events of existing threads, and earlier meters are unchanged. No condition. -/
import Derived.Test.YtmpbaanlagmacaaP2
namespace Go.Proofs.Ytmpbaanlagmacaa.lawCounts
open Go.ChangeShapes Go.WideShapes Go.ChangeAt Go.RowKit

theorem own : ownKnob Try.prog.godebug = none := by kernel_rfl
theorem info_bool : (Try.prog.info? 4).map (fun i => (i.zero, i.size, i.bytes)) = some (some (.bool false), 1, 1) := by kernel_rfl

/-- An event's cells. -/
def actc (a : Bool × Int) : List Value := [.bool a.1, .int .i64 a.2]

/-- The meter's cells at block B: since, worst, ops, threads. -/
def Met (B : Nat) (s wo o n : Int) (wr : World) : Prop :=
  wr.cell? ⟨B, 0, none⟩ = some (.int .i64 s) ∧ wr.cell? ⟨B, 1, none⟩ = some (.int .i64 wo) ∧ wr.cell? ⟨B, 2, none⟩ = some (.int .i64 o) ∧ wr.cell? ⟨B, 3, none⟩ = some (.int .i64 n) ∧
    wr.frozen? ⟨B, 0, none⟩ = false ∧ wr.frozen? ⟨B, 1, none⟩ = false ∧ wr.frozen? ⟨B, 2, none⟩ = false ∧ wr.frozen? ⟨B, 3, none⟩ = false ∧ B < wr.heap.size

theorem Met.set {B : Nat} {s wo o n : Int} {w : World} (h : Met B s wo o n w) (s' wo' o' n' : Int) :
    Met B s' wo' o' n' ((((w.setCell ⟨B, 0, none⟩ (.int .i64 s')).setCell ⟨B, 1, none⟩ (.int .i64 wo')).setCell ⟨B, 2, none⟩ (.int .i64 o')).setCell ⟨B, 3, none⟩ (.int .i64 n')) := by
  obtain ⟨c0, c1, c2, c3, f0, f1, f2, f3, hz⟩ := h
  unfold Met
  refine ⟨?_, ?_, ?_, ?_, ?_, ?_, ?_, ?_, by simpa using hz⟩ <;> simp [go_sem, c0, c1, c2, c3, f0, f1, f2, f3]

set_option maxHeartbeats 2000000 in
set_option maxRecDepth 100000 in
theorem counts_ok (th : Int) (A : Option Addr) (n cap : Nat) (l : List (Bool × Int)) (w : World) (ht1 : 1 ≤ th) (ht2 : th ≤ 8) (hn : l.length = n) (h300 : n ≤ 300) (hr : Rd w w.heap.size 2 A n (l.flatMap actc)) :
    Calls Try.prog 3 #[.int .i64 th, .slice A n cap] w fun e w' => e = .returned (.bool true) ∧ Below w.heap.size w w' := by
  obtain ⟨i0, hi, iz0, iz1, iz2⟩ := info_parts info_bool
  go_enter Try.func3, Try.ntmps3
  go_wp2_with (first
    | (go_at_call 16; refine (new_ok _ _ (by omega) (by omega)).mono ?_; rintro e w1 ⟨rfl, hb1⟩; have hz1 := hb1.size))
  go_loopw [8, 9] (fun v i wr => ∃ (k : Nat) (dl : List Bool), k ≤ n ∧ i = .int .i64 k ∧ dl.length ≤ k ∧ wr.ownsRow (w1.heap.size + 1) 4 1 v dl.length (dl.map Value.bool) ∧ Met w1.heap.size (cnt dl).2.1 (cnt dl).1 (cnt dl).2.2 th wr ∧ Below w.heap.size w wr)
    (fun _ i _ => n - (intOf i).toNat)
  case atStart =>
    exact ⟨0, [], by omega, rfl, by simp, World.ownsRow_nil _ _ _ _, by unfold Met; simp [cnt], (by repeat' (first | with_reducible exact Below.refl _ _ | with_reducible assumption | with_reducible refine Below.alloc ?_ ?_ _ | with_reducible refine Below.setCell ?_ ?_ _ | with_reducible refine Below.drew ?_ | with_reducible refine Below.trans ?_ (Below.mono (by with_reducible assumption) ?_) | omega | (simp <;> omega)))⟩
  case round =>
    obtain ⟨k, dl, hk, rfl, hdk, hown, ⟨c0, c1, c2, c3, f0, f1, f2, f3, hBz⟩, hB⟩ := hrel
    obtain ⟨A8, cap8, rfl, hrd⟩ := Rd.of_own hown
    have hbd := cnt_bd dl
    generalize hcd : cnt dl = cd at c0 c1 c2 hbd
    have Hcd := hide hcd
    clear hcd
    obtain ⟨wo, s, o⟩ := cd
    obtain ⟨q1, q2, q3, q4, q5, q6⟩ := hbd
    simp only at c0 c1 c2 q1 q2 q3 q4 q5 q6
    by_cases hlt : k < n
    · have hzk : l[k]? = some (l[k]'(by omega)) := List.getElem?_eq_getElem (by omega)
      obtain ⟨b, off, rfl, hbW, hcA⟩ := hr.elem (fun _ => rfl) hlt hzk
      generalize (l[k]'(by omega)) = z at hcA hzk
      obtain ⟨d, t⟩ := z
      have hx0 : wr.cell? ⟨b, off + k * 2, none⟩ = some (.bool d) := (hB.cell (p := ⟨b, off + k * 2, none⟩) hbW).trans (hcA 0 _ rfl)
      have hx1 : wr.cell? ⟨b, off + k * 2 + 1, none⟩ = some (.int .i64 t) := (hB.cell (p := ⟨b, off + k * 2 + 1, none⟩) hbW).trans (hcA 1 _ rfl)
      clear hzk hcA hr hn
      have hg := (gmax_bd wo (s + 1)).2
      by_cases hv : 1 ≤ t ∧ t ≤ th
      · obtain ⟨hv1, hv2⟩ := hv
        cases d
        · have hcn : Hid (cnt (dl ++ [true]) = (gmax wo (s + 1), s + 1, o)) := by
            unfold Hid
            rw [cnt_snoc, Hcd.out]
            rfl
          go_wp2_with (first
            | (go_at_call 17; refine (step_yes _ _ _ _ _ _ (by omega) (by omega) (by omega) (by omega)).mono ?_; rintro e w2 ⟨rfl, hbw2⟩; obtain ⟨hcw2, hfw2⟩ := bcell hbw2; have hy1 : w1.heap.size < w2.heap.size := (by have h := hbw2.size; (try simp at h); omega); have hy2 : wr.heap.size < w2.heap.size := (by have h := hbw2.size; (try simp at h); omega))
            | (go_at_call 18; refine (done_yes _ _ _ _ _ _ (by omega) (by omega) (by omega) (by omega)).mono ?_; rintro e w3 ⟨rfl, hbw3⟩; obtain ⟨hcw3, hfw3⟩ := bcell hbw3; have hy1 : w1.heap.size < w3.heap.size := (by have h := hbw3.size; (try simp at h); omega); have hy2 : wr.heap.size < w3.heap.size := (by have h := hbw3.size; (try simp at h); omega); have hy3 : w2.heap.size < w3.heap.size := (by have h := hbw3.size; (try simp at h); omega))
            | (go_at_call 19; refine (count_any _ _ _ dl _ _ rfl (by omega) (hrd.below (by repeat' (first | with_reducible exact Below.refl _ _ | with_reducible assumption | with_reducible refine Below.alloc ?_ ?_ _ | with_reducible refine Below.setCell ?_ ?_ _ | with_reducible refine Below.drew ?_ | with_reducible refine Below.trans ?_ (Below.mono (by with_reducible assumption) ?_) | omega | (simp <;> omega))))).mono ?_; rintro e w2 ⟨rfl, rfl⟩; rw [Hcd.out])
            | (go_at_call 20; refine (worst_any _ _ _ _ _).mono ?_; rintro e w3 ⟨rfl, hbw3⟩; obtain ⟨hcw3, hfw3⟩ := bcell hbw3; have hy1 : w1.heap.size < w3.heap.size := (by have h := hbw3.size; (try simp at h); omega); have hy2 : wr.heap.size < w3.heap.size := (by have h := hbw3.size; (try simp at h); omega); have hy3 : w2.heap.size < w3.heap.size := (by have h := hbw3.size; (try simp at h); omega))
            | (at_builtin; (refine wpList_append_own _ rfl _ _ 31 rfl (w1.heap.size + 1) 4 i0 (.bool false) 1 1 Try.underlying31 hi iz0 iz1 iz2 rfl (by decide) (.slice A8 dl.length cap8) dl.length (dl.map Value.bool) rfl (own_below hown (by repeat' (first | with_reducible exact Below.refl _ _ | with_reducible assumption | with_reducible refine Below.alloc ?_ ?_ _ | with_reducible refine Below.setCell ?_ ?_ _ | with_reducible refine Below.drew ?_ | with_reducible refine Below.trans ?_ (Below.mono (by with_reducible assumption) ?_) | omega | (simp <;> omega)))) ⟨w3.heap.size, 0, none⟩ 1 1 [.bool true] rfl rfl ?o2 ?o3 ?o4 ?o5 ?o6 ?_))
            )
          case o2 =>
            intro j u hj
            match j, hj with
            | 0, hj => simp at hj; subst hj; simp [Addr.add]
          case o3 => intro u hu; simp at hu; subst hu; rfl
          case o4 => unfold maxLen; omega
          case o5 => omega
          case o6 => simp; omega
          intro v' w4 hown' hg4 _
          have hown3 := own_below hown (w' := w3.alloc (.cells #[.bool true] 4)) (by repeat' (first | with_reducible exact Below.refl _ _ | with_reducible assumption | with_reducible refine Below.alloc ?_ ?_ _ | with_reducible refine Below.setCell ?_ ?_ _ | with_reducible refine Below.drew ?_ | with_reducible refine Below.trans ?_ (Below.mono (by with_reducible assumption) ?_) | omega | (simp <;> omega)))
          have hB3 : Below w.heap.size w w3 := (by repeat' (first | with_reducible exact Below.refl _ _ | with_reducible assumption | with_reducible refine Below.alloc ?_ ?_ _ | with_reducible refine Below.setCell ?_ ?_ _ | with_reducible refine Below.drew ?_ | with_reducible refine Below.trans ?_ (Below.mono (by with_reducible assumption) ?_) | omega | (simp <;> omega)))
          have hB4 : Below w.heap.size w w4 := below_grown (hB3.alloc (by omega) _) hg4 hown3 (by omega) (by simp; omega)
          obtain ⟨hm4, hn4⟩ := gcell hg4 (b := w1.heap.size) (by simp; omega) (own_ne hown (by omega))
          obtain ⟨ha4, hb4⟩ := gcell hg4 (b := wr.heap.size) (by simp; omega) (own_ne hown (by omega))
          obtain ⟨hx4, hy4⟩ := gcell hg4 (b := w2.heap.size) (by simp; omega) (own_ne hown (by omega))
          have hs4 := hg4.size
          simp only [World.size_alloc] at hs4
          have hz4 : w1.heap.size < w4.heap.size := by omega
          have hzr4 : wr.heap.size < w4.heap.size := by omega
          have hzx4 : w2.heap.size < w4.heap.size := by omega
          have hown4 : w4.ownsRow (w1.heap.size + 1) 4 1 v' (dl.length + 1) ((dl ++ [true]).map Value.bool) := by simpa using hown'
          clear hown' hg4 hown3 hs4 hown hrd
          obtain ⟨A9, cap9, rfl, hrd⟩ := Rd.of_own hown4
          go_wp2_with (first
            | (go_at_call 19; refine (count_any _ _ _ (dl ++ [true]) _ _ (by simp) (by omega) (hrd.below (by repeat' (first | with_reducible exact Below.refl _ _ | with_reducible assumption | with_reducible refine Below.alloc ?_ ?_ _ | with_reducible refine Below.setCell ?_ ?_ _ | with_reducible refine Below.drew ?_ | with_reducible refine Below.trans ?_ (Below.mono (by with_reducible assumption) ?_) | omega | (simp <;> omega))))).mono ?_; rintro e w2 ⟨rfl, rfl⟩; rw [hcn.out])
            | (go_at_call 20; refine (worst_any _ _ _ _ _).mono ?_; rintro e w5 ⟨rfl, hbw5⟩; obtain ⟨hcw5, hfw5⟩ := bcell hbw5; have hy1 : w1.heap.size < w5.heap.size := (by have h := hbw5.size; (try simp at h); omega); have hy2 : wr.heap.size < w5.heap.size := (by have h := hbw5.size; (try simp at h); omega); have hy3 : w2.heap.size < w5.heap.size := (by have h := hbw5.size; (try simp at h); omega); have hy4 : w4.heap.size ≤ w5.heap.size := (by have h := hbw5.size; (try simp at h); omega))
            | (go_at_call 21; refine (since_any _ _ _ _ _).mono ?_; rintro e w5 ⟨rfl, hbw5⟩; obtain ⟨hcw5, hfw5⟩ := bcell hbw5; have hy1 : w1.heap.size < w5.heap.size := (by have h := hbw5.size; (try simp at h); omega); have hy2 : wr.heap.size < w5.heap.size := (by have h := hbw5.size; (try simp at h); omega); have hy3 : w2.heap.size < w5.heap.size := (by have h := hbw5.size; (try simp at h); omega); have hy4 : w4.heap.size ≤ w5.heap.size := (by have h := hbw5.size; (try simp at h); omega))
            | (go_at_call 22; refine (ops_any _ _ _ _ _).mono ?_; rintro e w5 ⟨rfl, hbw5⟩; obtain ⟨hcw5, hfw5⟩ := bcell hbw5; have hy1 : w1.heap.size < w5.heap.size := (by have h := hbw5.size; (try simp at h); omega); have hy2 : wr.heap.size < w5.heap.size := (by have h := hbw5.size; (try simp at h); omega); have hy3 : w2.heap.size < w5.heap.size := (by have h := hbw5.size; (try simp at h); omega); have hy4 : w4.heap.size ≤ w5.heap.size := (by have h := hbw5.size; (try simp at h); omega)))
          refine ⟨⟨k + 1, dl ++ [true], by omega, by go_num, by simp; omega, ?_, ?_, (by repeat' (first | with_reducible exact Below.refl _ _ | with_reducible assumption | with_reducible refine Below.alloc ?_ ?_ _ | with_reducible refine Below.setCell ?_ ?_ _ | with_reducible refine Below.drew ?_ | with_reducible refine Below.trans ?_ (Below.mono (by with_reducible assumption) ?_) | omega | (simp <;> omega)))⟩, by simp [intOf]; omega⟩
          · have h5 := own_below hown4 (w' := w5) (by repeat' (first | with_reducible exact Below.refl _ _ | with_reducible assumption | with_reducible refine Below.alloc ?_ ?_ _ | with_reducible refine Below.setCell ?_ ?_ _ | with_reducible refine Below.drew ?_ | with_reducible refine Below.trans ?_ (Below.mono (by with_reducible assumption) ?_) | omega | (simp <;> omega)))
            rw [List.length_append]
            exact ownsRow_setCell_below (ownsRow_setCell_below (ownsRow_setCell_below (ownsRow_setCell_below h5 (by simp) _) (by simp) _) (by simp) _) (by simp) _
          · have hM : Met w1.heap.size s wo o th w5 := by
              unfold Met
              refine ⟨by go_simp, by go_simp, by go_simp, by go_simp, by go_simp, by go_simp, by go_simp, by go_simp, by omega⟩
            rw [hcn.out]
            exact hM.set _ _ _ _
        · have hcn : Hid (cnt (dl ++ [false]) = (wo, 0, o + 1)) := by
            unfold Hid
            rw [cnt_snoc, Hcd.out]
            rfl
          go_wp2_with (first
            | (go_at_call 17; refine (step_yes _ _ _ _ _ _ (by omega) (by omega) (by omega) (by omega)).mono ?_; rintro e w2 ⟨rfl, hbw2⟩; obtain ⟨hcw2, hfw2⟩ := bcell hbw2; have hy1 : w1.heap.size < w2.heap.size := (by have h := hbw2.size; (try simp at h); omega); have hy2 : wr.heap.size < w2.heap.size := (by have h := hbw2.size; (try simp at h); omega))
            | (go_at_call 18; refine (done_yes _ _ _ _ _ _ (by omega) (by omega) (by omega) (by omega)).mono ?_; rintro e w3 ⟨rfl, hbw3⟩; obtain ⟨hcw3, hfw3⟩ := bcell hbw3; have hy1 : w1.heap.size < w3.heap.size := (by have h := hbw3.size; (try simp at h); omega); have hy2 : wr.heap.size < w3.heap.size := (by have h := hbw3.size; (try simp at h); omega); have hy3 : w2.heap.size < w3.heap.size := (by have h := hbw3.size; (try simp at h); omega))
            | (go_at_call 19; refine (count_any _ _ _ dl _ _ rfl (by omega) (hrd.below (by repeat' (first | with_reducible exact Below.refl _ _ | with_reducible assumption | with_reducible refine Below.alloc ?_ ?_ _ | with_reducible refine Below.setCell ?_ ?_ _ | with_reducible refine Below.drew ?_ | with_reducible refine Below.trans ?_ (Below.mono (by with_reducible assumption) ?_) | omega | (simp <;> omega))))).mono ?_; rintro e w2 ⟨rfl, rfl⟩; rw [Hcd.out])
            | (go_at_call 20; refine (worst_any _ _ _ _ _).mono ?_; rintro e w3 ⟨rfl, hbw3⟩; obtain ⟨hcw3, hfw3⟩ := bcell hbw3; have hy1 : w1.heap.size < w3.heap.size := (by have h := hbw3.size; (try simp at h); omega); have hy2 : wr.heap.size < w3.heap.size := (by have h := hbw3.size; (try simp at h); omega); have hy3 : w2.heap.size < w3.heap.size := (by have h := hbw3.size; (try simp at h); omega))
            | (at_builtin; (refine wpList_append_own _ rfl _ _ 31 rfl (w1.heap.size + 1) 4 i0 (.bool false) 1 1 Try.underlying31 hi iz0 iz1 iz2 rfl (by decide) (.slice A8 dl.length cap8) dl.length (dl.map Value.bool) rfl (own_below hown (by repeat' (first | with_reducible exact Below.refl _ _ | with_reducible assumption | with_reducible refine Below.alloc ?_ ?_ _ | with_reducible refine Below.setCell ?_ ?_ _ | with_reducible refine Below.drew ?_ | with_reducible refine Below.trans ?_ (Below.mono (by with_reducible assumption) ?_) | omega | (simp <;> omega)))) ⟨w3.heap.size, 0, none⟩ 1 1 [.bool false] rfl rfl ?o2 ?o3 ?o4 ?o5 ?o6 ?_))
            )
          case o2 =>
            intro j u hj
            match j, hj with
            | 0, hj => simp at hj; subst hj; simp [Addr.add]
          case o3 => intro u hu; simp at hu; subst hu; rfl
          case o4 => unfold maxLen; omega
          case o5 => omega
          case o6 => simp; omega
          intro v' w4 hown' hg4 _
          have hown3 := own_below hown (w' := w3.alloc (.cells #[.bool false] 4)) (by repeat' (first | with_reducible exact Below.refl _ _ | with_reducible assumption | with_reducible refine Below.alloc ?_ ?_ _ | with_reducible refine Below.setCell ?_ ?_ _ | with_reducible refine Below.drew ?_ | with_reducible refine Below.trans ?_ (Below.mono (by with_reducible assumption) ?_) | omega | (simp <;> omega)))
          have hB3 : Below w.heap.size w w3 := (by repeat' (first | with_reducible exact Below.refl _ _ | with_reducible assumption | with_reducible refine Below.alloc ?_ ?_ _ | with_reducible refine Below.setCell ?_ ?_ _ | with_reducible refine Below.drew ?_ | with_reducible refine Below.trans ?_ (Below.mono (by with_reducible assumption) ?_) | omega | (simp <;> omega)))
          have hB4 : Below w.heap.size w w4 := below_grown (hB3.alloc (by omega) _) hg4 hown3 (by omega) (by simp; omega)
          obtain ⟨hm4, hn4⟩ := gcell hg4 (b := w1.heap.size) (by simp; omega) (own_ne hown (by omega))
          obtain ⟨ha4, hb4⟩ := gcell hg4 (b := wr.heap.size) (by simp; omega) (own_ne hown (by omega))
          obtain ⟨hx4, hy4⟩ := gcell hg4 (b := w2.heap.size) (by simp; omega) (own_ne hown (by omega))
          have hs4 := hg4.size
          simp only [World.size_alloc] at hs4
          have hz4 : w1.heap.size < w4.heap.size := by omega
          have hzr4 : wr.heap.size < w4.heap.size := by omega
          have hzx4 : w2.heap.size < w4.heap.size := by omega
          have hown4 : w4.ownsRow (w1.heap.size + 1) 4 1 v' (dl.length + 1) ((dl ++ [false]).map Value.bool) := by simpa using hown'
          clear hown' hg4 hown3 hs4 hown hrd
          obtain ⟨A9, cap9, rfl, hrd⟩ := Rd.of_own hown4
          go_wp2_with (first
            | (go_at_call 19; refine (count_any _ _ _ (dl ++ [false]) _ _ (by simp) (by omega) (hrd.below (by repeat' (first | with_reducible exact Below.refl _ _ | with_reducible assumption | with_reducible refine Below.alloc ?_ ?_ _ | with_reducible refine Below.setCell ?_ ?_ _ | with_reducible refine Below.drew ?_ | with_reducible refine Below.trans ?_ (Below.mono (by with_reducible assumption) ?_) | omega | (simp <;> omega))))).mono ?_; rintro e w2 ⟨rfl, rfl⟩; rw [hcn.out])
            | (go_at_call 20; refine (worst_any _ _ _ _ _).mono ?_; rintro e w5 ⟨rfl, hbw5⟩; obtain ⟨hcw5, hfw5⟩ := bcell hbw5; have hy1 : w1.heap.size < w5.heap.size := (by have h := hbw5.size; (try simp at h); omega); have hy2 : wr.heap.size < w5.heap.size := (by have h := hbw5.size; (try simp at h); omega); have hy3 : w2.heap.size < w5.heap.size := (by have h := hbw5.size; (try simp at h); omega); have hy4 : w4.heap.size ≤ w5.heap.size := (by have h := hbw5.size; (try simp at h); omega))
            | (go_at_call 21; refine (since_any _ _ _ _ _).mono ?_; rintro e w5 ⟨rfl, hbw5⟩; obtain ⟨hcw5, hfw5⟩ := bcell hbw5; have hy1 : w1.heap.size < w5.heap.size := (by have h := hbw5.size; (try simp at h); omega); have hy2 : wr.heap.size < w5.heap.size := (by have h := hbw5.size; (try simp at h); omega); have hy3 : w2.heap.size < w5.heap.size := (by have h := hbw5.size; (try simp at h); omega); have hy4 : w4.heap.size ≤ w5.heap.size := (by have h := hbw5.size; (try simp at h); omega))
            | (go_at_call 22; refine (ops_any _ _ _ _ _).mono ?_; rintro e w5 ⟨rfl, hbw5⟩; obtain ⟨hcw5, hfw5⟩ := bcell hbw5; have hy1 : w1.heap.size < w5.heap.size := (by have h := hbw5.size; (try simp at h); omega); have hy2 : wr.heap.size < w5.heap.size := (by have h := hbw5.size; (try simp at h); omega); have hy3 : w2.heap.size < w5.heap.size := (by have h := hbw5.size; (try simp at h); omega); have hy4 : w4.heap.size ≤ w5.heap.size := (by have h := hbw5.size; (try simp at h); omega)))
          refine ⟨⟨k + 1, dl ++ [false], by omega, by go_num, by simp; omega, ?_, ?_, (by repeat' (first | with_reducible exact Below.refl _ _ | with_reducible assumption | with_reducible refine Below.alloc ?_ ?_ _ | with_reducible refine Below.setCell ?_ ?_ _ | with_reducible refine Below.drew ?_ | with_reducible refine Below.trans ?_ (Below.mono (by with_reducible assumption) ?_) | omega | (simp <;> omega)))⟩, by simp [intOf]; omega⟩
          · have h5 := own_below hown4 (w' := w5) (by repeat' (first | with_reducible exact Below.refl _ _ | with_reducible assumption | with_reducible refine Below.alloc ?_ ?_ _ | with_reducible refine Below.setCell ?_ ?_ _ | with_reducible refine Below.drew ?_ | with_reducible refine Below.trans ?_ (Below.mono (by with_reducible assumption) ?_) | omega | (simp <;> omega)))
            rw [List.length_append]
            exact ownsRow_setCell_below (ownsRow_setCell_below (ownsRow_setCell_below (ownsRow_setCell_below h5 (by simp) _) (by simp) _) (by simp) _) (by simp) _
          · have hM : Met w1.heap.size s wo o th w5 := by
              unfold Met
              refine ⟨by go_simp, by go_simp, by go_simp, by go_simp, by go_simp, by go_simp, by go_simp, by go_simp, by omega⟩
            rw [hcn.out]
            exact hM.set _ _ _ _
      · by_cases hv1 : t < 1
        · cases d
          all_goals
            go_wp2_with (first
              | (go_at_call 17; refine (step_no _ _ _ _ _ _ (by omega)).mono ?_; rintro e w2 ⟨rfl, hbw2⟩; obtain ⟨hcw2, hfw2⟩ := bcell hbw2; have hy1 : w1.heap.size < w2.heap.size := (by have h := hbw2.size; (try simp at h); omega); have hy2 : wr.heap.size < w2.heap.size := (by have h := hbw2.size; (try simp at h); omega))
              | (go_at_call 18; refine (done_no _ _ _ _ _ _ (by omega)).mono ?_; rintro e w3 ⟨rfl, hbw3⟩; obtain ⟨hcw3, hfw3⟩ := bcell hbw3; have hy1 : w1.heap.size < w3.heap.size := (by have h := hbw3.size; (try simp at h); omega); have hy2 : wr.heap.size < w3.heap.size := (by have h := hbw3.size; (try simp at h); omega); have hy3 : w2.heap.size < w3.heap.size := (by have h := hbw3.size; (try simp at h); omega))
              | (go_at_call 19; refine (count_any _ _ _ dl _ _ rfl (by omega) (hrd.below (by repeat' (first | with_reducible exact Below.refl _ _ | with_reducible assumption | with_reducible refine Below.alloc ?_ ?_ _ | with_reducible refine Below.setCell ?_ ?_ _ | with_reducible refine Below.drew ?_ | with_reducible refine Below.trans ?_ (Below.mono (by with_reducible assumption) ?_) | omega | (simp <;> omega))))).mono ?_; rintro e w2 ⟨rfl, rfl⟩; rw [Hcd.out])
              | (go_at_call 20; refine (worst_any _ _ _ _ _).mono ?_; rintro e w3 ⟨rfl, hbw3⟩; obtain ⟨hcw3, hfw3⟩ := bcell hbw3; have hy1 : w1.heap.size < w3.heap.size := (by have h := hbw3.size; (try simp at h); omega); have hy2 : wr.heap.size < w3.heap.size := (by have h := hbw3.size; (try simp at h); omega); have hy3 : w2.heap.size < w3.heap.size := (by have h := hbw3.size; (try simp at h); omega))
              | (go_at_call 21; refine (since_any _ _ _ _ _).mono ?_; rintro e w3 ⟨rfl, hbw3⟩; obtain ⟨hcw3, hfw3⟩ := bcell hbw3; have hy1 : w1.heap.size < w3.heap.size := (by have h := hbw3.size; (try simp at h); omega); have hy2 : wr.heap.size < w3.heap.size := (by have h := hbw3.size; (try simp at h); omega); have hy3 : w2.heap.size < w3.heap.size := (by have h := hbw3.size; (try simp at h); omega))
              | (go_at_call 22; refine (ops_any _ _ _ _ _).mono ?_; rintro e w3 ⟨rfl, hbw3⟩; obtain ⟨hcw3, hfw3⟩ := bcell hbw3; have hy1 : w1.heap.size < w3.heap.size := (by have h := hbw3.size; (try simp at h); omega); have hy2 : wr.heap.size < w3.heap.size := (by have h := hbw3.size; (try simp at h); omega); have hy3 : w2.heap.size < w3.heap.size := (by have h := hbw3.size; (try simp at h); omega)))
            refine ⟨⟨k + 1, dl, by omega, by go_num, by omega, ?_, ?_, (by repeat' (first | with_reducible exact Below.refl _ _ | with_reducible assumption | with_reducible refine Below.alloc ?_ ?_ _ | with_reducible refine Below.setCell ?_ ?_ _ | with_reducible refine Below.drew ?_ | with_reducible refine Below.trans ?_ (Below.mono (by with_reducible assumption) ?_) | omega | (simp <;> omega)))⟩, by simp [intOf]; omega⟩
            · have h5 := own_below hown (w' := w3) (by repeat' (first | with_reducible exact Below.refl _ _ | with_reducible assumption | with_reducible refine Below.alloc ?_ ?_ _ | with_reducible refine Below.setCell ?_ ?_ _ | with_reducible refine Below.drew ?_ | with_reducible refine Below.trans ?_ (Below.mono (by with_reducible assumption) ?_) | omega | (simp <;> omega)))
              exact ownsRow_setCell_below (ownsRow_setCell_below (ownsRow_setCell_below (ownsRow_setCell_below h5 (by simp) _) (by simp) _) (by simp) _) (by simp) _
            · have hM : Met w1.heap.size s wo o th w3 := by
                unfold Met
                refine ⟨by go_simp, by go_simp, by go_simp, by go_simp, by go_simp, by go_simp, by go_simp, by go_simp, by omega⟩
              rw [Hcd.out]
              exact hM.set _ _ _ _
        · have hv2 : th < t := by omega
          cases d
          all_goals
            go_wp2_with (first
              | (go_at_call 17; refine (step_no _ _ _ _ _ _ (by omega)).mono ?_; rintro e w2 ⟨rfl, hbw2⟩; obtain ⟨hcw2, hfw2⟩ := bcell hbw2; have hy1 : w1.heap.size < w2.heap.size := (by have h := hbw2.size; (try simp at h); omega); have hy2 : wr.heap.size < w2.heap.size := (by have h := hbw2.size; (try simp at h); omega))
              | (go_at_call 18; refine (done_no _ _ _ _ _ _ (by omega)).mono ?_; rintro e w3 ⟨rfl, hbw3⟩; obtain ⟨hcw3, hfw3⟩ := bcell hbw3; have hy1 : w1.heap.size < w3.heap.size := (by have h := hbw3.size; (try simp at h); omega); have hy2 : wr.heap.size < w3.heap.size := (by have h := hbw3.size; (try simp at h); omega); have hy3 : w2.heap.size < w3.heap.size := (by have h := hbw3.size; (try simp at h); omega))
              | (go_at_call 19; refine (count_any _ _ _ dl _ _ rfl (by omega) (hrd.below (by repeat' (first | with_reducible exact Below.refl _ _ | with_reducible assumption | with_reducible refine Below.alloc ?_ ?_ _ | with_reducible refine Below.setCell ?_ ?_ _ | with_reducible refine Below.drew ?_ | with_reducible refine Below.trans ?_ (Below.mono (by with_reducible assumption) ?_) | omega | (simp <;> omega))))).mono ?_; rintro e w2 ⟨rfl, rfl⟩; rw [Hcd.out])
              | (go_at_call 20; refine (worst_any _ _ _ _ _).mono ?_; rintro e w3 ⟨rfl, hbw3⟩; obtain ⟨hcw3, hfw3⟩ := bcell hbw3; have hy1 : w1.heap.size < w3.heap.size := (by have h := hbw3.size; (try simp at h); omega); have hy2 : wr.heap.size < w3.heap.size := (by have h := hbw3.size; (try simp at h); omega); have hy3 : w2.heap.size < w3.heap.size := (by have h := hbw3.size; (try simp at h); omega))
              | (go_at_call 21; refine (since_any _ _ _ _ _).mono ?_; rintro e w3 ⟨rfl, hbw3⟩; obtain ⟨hcw3, hfw3⟩ := bcell hbw3; have hy1 : w1.heap.size < w3.heap.size := (by have h := hbw3.size; (try simp at h); omega); have hy2 : wr.heap.size < w3.heap.size := (by have h := hbw3.size; (try simp at h); omega); have hy3 : w2.heap.size < w3.heap.size := (by have h := hbw3.size; (try simp at h); omega))
              | (go_at_call 22; refine (ops_any _ _ _ _ _).mono ?_; rintro e w3 ⟨rfl, hbw3⟩; obtain ⟨hcw3, hfw3⟩ := bcell hbw3; have hy1 : w1.heap.size < w3.heap.size := (by have h := hbw3.size; (try simp at h); omega); have hy2 : wr.heap.size < w3.heap.size := (by have h := hbw3.size; (try simp at h); omega); have hy3 : w2.heap.size < w3.heap.size := (by have h := hbw3.size; (try simp at h); omega)))
            refine ⟨⟨k + 1, dl, by omega, by go_num, by omega, ?_, ?_, (by repeat' (first | with_reducible exact Below.refl _ _ | with_reducible assumption | with_reducible refine Below.alloc ?_ ?_ _ | with_reducible refine Below.setCell ?_ ?_ _ | with_reducible refine Below.drew ?_ | with_reducible refine Below.trans ?_ (Below.mono (by with_reducible assumption) ?_) | omega | (simp <;> omega)))⟩, by simp [intOf]; omega⟩
            · have h5 := own_below hown (w' := w3) (by repeat' (first | with_reducible exact Below.refl _ _ | with_reducible assumption | with_reducible refine Below.alloc ?_ ?_ _ | with_reducible refine Below.setCell ?_ ?_ _ | with_reducible refine Below.drew ?_ | with_reducible refine Below.trans ?_ (Below.mono (by with_reducible assumption) ?_) | omega | (simp <;> omega)))
              exact ownsRow_setCell_below (ownsRow_setCell_below (ownsRow_setCell_below (ownsRow_setCell_below h5 (by simp) _) (by simp) _) (by simp) _) (by simp) _
            · have hM : Met w1.heap.size s wo o th w3 := by
                unfold Met
                refine ⟨by go_simp, by go_simp, by go_simp, by go_simp, by go_simp, by go_simp, by go_simp, by go_simp, by omega⟩
              rw [Hcd.out]
              exact hM.set _ _ _ _
    · have hkn : n ≤ k := by omega
      go_wp2_with (go_at_call 15; refine (awake61_any _).mono ?_; rintro e w3 ⟨rfl, hbw3⟩; obtain ⟨hcw3, hfw3⟩ := bcell hbw3)
      go_ret
      exact ⟨rfl, (by repeat' (first | with_reducible exact Below.refl _ _ | with_reducible assumption | with_reducible refine Below.alloc ?_ ?_ _ | with_reducible refine Below.setCell ?_ ?_ _ | with_reducible refine Below.drew ?_ | with_reducible refine Below.trans ?_ (Below.mono (by with_reducible assumption) ?_) | omega | (simp <;> omega)))⟩
end Go.Proofs.Ytmpbaanlagmacaa.lawCounts
