/- Package view: At, With, Join. -/
import Derived.Maps.RangeWalk
import Derived.StillTactics
import Derived.Deep.RegionHeld3
import Derived.Deep.RegionLaw
import Derived.Test.YtmjkopejbdipcaaG02
import Derived.Test.YtmjkopejbdipcaaG03
namespace Go.Proofs.Ytmjkopejbdipcaa
set_option linter.unusedSimpArgs false
set_option linter.unusedVariables false
open Go.RowKit Go.Maps
theorem wf_loc {L : Nat} {z : Int} (h0 : 0 ≤ z) (h1 : z < (L : Int)) (hL : L ≤ 4096) : (Lit.int .i64 z).wf = true := WalkArith.wf_i64 (by omega)
theorem view_at (L : Nat) (hL : L ≤ 4096) (a : VwV) (z : Int) (w : World) (h : a.R L w) (h0 : 0 ≤ z) (h1 : z < (L : Int)) :
    Calls Try.prog 86 #[.agg #[.map a.v], .int .i64 z] w fun e w' => e = .returned (.int .i64 (a.f z)) ∧ Below w.heap.size w w' := by
  have hl := fun o => look_any (h.mapF.alloc o) Try.underlying64 Try.underlying77 (wf_loc h0 h1 hL)
  go_enter Try.func86, Try.ntmps86
  go_wp2_with fail
  go_ret
  exact ⟨rfl, (by repeat' (first | with_reducible exact Below.refl _ _ | with_reducible assumption | with_reducible refine Below.alloc ?_ ?_ _ | with_reducible refine Below.setCell ?_ ?_ _ | with_reducible refine Below.drew ?_ | with_reducible refine below_drewN ?_ _ | with_reducible refine Below.trans ?_ (Below.mono (by with_reducible assumption) ?_) | omega | (simp <;> omega)))⟩
/-- What With makes of a view. -/
def withF (f : Int → Int) (z k : Int) : Int → Int := if k ≤ f z then f else upd f z k
theorem withF_pos {L : Nat} {f : Int → Int} {z k : Int} (hf : ∀ z, 0 ≤ f z ∧ (z < 0 ∨ (L : Int) ≤ z → f z = 0)) (h0 : 0 ≤ z) (h1 : z < (L : Int)) : ∀ y, 0 ≤ withF f z k y ∧ (y < 0 ∨ (L : Int) ≤ y → withF f z k y = 0) := by
  intro y
  unfold withF upd
  have h2 := hf y
  have h3 := (hf z).1
  split
  · exact h2
  · simp only
    split
    · exact ⟨by omega, fun h => by omega⟩
    · exact h2
set_option maxHeartbeats 1000000 in
set_option maxRecDepth 100000 in
theorem view_with (L : Nat) (hL : L ≤ 4096) (a : VwV) (z k : Int) (w : World) (h : a.R L w) (h0 : 0 ≤ z) (h1 : z < (L : Int)) (wk : (Lit.int .i64 k).wf = true) :
    Calls Try.prog 80 #[.agg #[.map a.v], .int .i64 z, .int .i64 k] w fun e w' => ∃ v', e = .returned (.agg #[.map v']) ∧ VwV.R L w' ⟨v', withF a.f z k⟩ ∧ Below w.heap.size w w' := by
  obtain ⟨v, f⟩ := a
  have hl := fun o o2 => look_any ((h.mapF.alloc o).alloc o2) Try.underlying64 Try.underlying77 (wf_loc h0 h1 hL)
  simp only at hl
  have hq := fun (w : World) (r : Option Nat) => run_eql_map_nil (P := Try.prog) w _ _ _ r Try.underlying77
  have hmm := @run_makeMap Try.prog
  have hz0 : ¬ (z < 0) := by omega
  have hz1 : ¬ (z ≥ 4096) := by omega
  have hz2 : ¬ (4096 ≤ z) := by omega
  by_cases hk : k ≤ f z
  · have hwf : Hid (withF f z k = f) := hide (if_pos hk)
    go_enter Try.func80, Try.ntmps80
    go_wp2_with fail
    refine bodyPost_ret (v := .agg #[.map v]) (by simp [results, Try.results80, go_sem]) rfl ⟨_, rfl, by rw [hwf.out]; exact h.below (by repeat' (first | with_reducible exact Below.refl _ _ | with_reducible assumption | with_reducible refine Below.alloc ?_ ?_ _ | with_reducible refine Below.setCell ?_ ?_ _ | with_reducible refine Below.drew ?_ | with_reducible refine below_drewN ?_ _ | with_reducible refine Below.trans ?_ (Below.mono (by with_reducible assumption) ?_) | omega | (simp <;> omega))), (by repeat' (first | with_reducible exact Below.refl _ _ | with_reducible assumption | with_reducible refine Below.alloc ?_ ?_ _ | with_reducible refine Below.setCell ?_ ?_ _ | with_reducible refine Below.drew ?_ | with_reducible refine below_drewN ?_ _ | with_reducible refine Below.trans ?_ (Below.mono (by with_reducible assumption) ?_) | omega | (simp <;> omega)))⟩
  · have hwf : Hid (withF f z k = upd f z k) := hide (if_neg hk)
    have Hpos := hide (withF_pos (k := k) h.1 h0 h1)
    obtain ⟨-, hR⟩ := h
    simp only at hR
    rcases hR with ⟨rfl, hf⟩ | ⟨b, D, rfl, hown, hi, hf⟩
    · have Hf := hide hf
      have hwm : Hid (w.heap.size + 1 + 1 = ((w.alloc (.cells #[.map none] 131)).alloc (.cells #[.map none] 131)).heap.size) := hide (by simp)
      clear hf
      go_enter Try.func80, Try.ntmps80
      go_wp2_with fail
      refine (clone_nil _).mono ?_
      rintro e w1 ⟨rfl, hw1⟩
      have hz5 : w.heap.size + 1 < w1.heap.size := by rw [hw1]; simp
      have hz4 : w.heap.size < w1.heap.size := by omega
      have hB1 : Below w.heap.size w w1 := by rw [hw1]; exact (by repeat' (first | with_reducible exact Below.refl _ _ | with_reducible assumption | with_reducible refine Below.alloc ?_ ?_ _ | with_reducible refine Below.setCell ?_ ?_ _ | with_reducible refine Below.drew ?_ | with_reducible refine below_drewN ?_ _ | with_reducible refine Below.trans ?_ (Below.mono (by with_reducible assumption) ?_) | omega | (simp <;> omega)))
      have c1 : w1.cell? ⟨w.heap.size + 1, 0, none⟩ = some (.map none) := by rw [hw1]; go_simp
      have d1 : w1.frozen? ⟨w.heap.size + 1, 0, none⟩ = false := by rw [hw1]; go_simp
      clear hw1 hl
      have hownM : (w1.alloc (.map #[] 0)).ownsMap Try.prog 64 (plainElem (H := Unit) Try.prog 3) w1.heap.size L (.map []) := (World.ownsMap_made _ _ _ _).mono (Nat.zero_le _)
      go_wp2_with (first | (at_mapUpdate; refine wpList_mapUpdate_own _ rfl _ _ _ 77 rfl 64 3 law_loc Try.underlying77 _ (w1.heap.size) L (.map []) rfl hownM (by unfold maxLen; omega) _ _ _ rfl rfl (keyOf_int_mk Try.underlying64 (wf_loc h0 h1 hL)) _ [] (plainElem_int Try.underlying3 wk) ?_; intro w2 hown2 hg2; obtain ⟨hcc2, hff2⟩ := grown_cell hg2 (b := w.heap.size + 1) (by first | omega | (simp; omega)) (by intro e; injection e with e; omega)))
      have e6 : w2.cell? ⟨w.heap.size + 1, 0, none⟩ = some (.map none) := by go_simp
      have hB2 : Below w.heap.size w w2 := Below.grown (w := w1.alloc (.map #[] 0)) (by repeat' (first | with_reducible exact Below.refl _ _ | with_reducible assumption | with_reducible refine Below.alloc ?_ ?_ _ | with_reducible refine Below.setCell ?_ ?_ _ | with_reducible refine Below.drew ?_ | with_reducible refine below_drewN ?_ _ | with_reducible refine Below.trans ?_ (Below.mono (by with_reducible assumption) ?_) | omega | (simp <;> omega))) hg2 (by simp; omega) (fun j hj => by cases hj; omega)
      refine bodyPost_ret (v := .agg #[.map (some w1.heap.size)]) (by simp [results, Try.results80, go_sem, e6]) rfl ?_
      have hk2 : KeysIn ((DataW.map [] : DataW Unit).put (.int .i64 z) (.lit (.int .i64 k))) L := (KeysIn.empty L).put h0 h1 _
      refine ⟨_, rfl, ⟨Hpos.out, .inr ⟨_, _, rfl, (own_fit hown2 law_loc hk2).setCell ?_ _, hk2, ?_⟩⟩, (by repeat' (first | with_reducible exact Below.refl _ _ | with_reducible assumption | with_reducible refine Below.alloc ?_ ?_ _ | with_reducible refine Below.setCell ?_ ?_ _ | with_reducible refine Below.drew ?_ | with_reducible refine below_drewN ?_ _ | with_reducible refine Below.trans ?_ (Below.mono (by with_reducible assumption) ?_) | omega | (simp <;> omega)))⟩
      · first | omega | (simp; done) | (simp; omega)
      · show ∀ x, _ → _ = DataW.lit (.int .i64 (withF f z k x))
        rw [hwf.out]
        exact reads_upd (f := f) isMap_empty (fun x wx => by rw [Hf.out x]; rfl) z k (wf_loc h0 h1 hL)
    · have Hf := hide hf
      clear hf
      go_enter Try.func80, Try.ntmps80
      go_wp2_with fail
      refine (clone_own _ (hown.kept (grown_of_below (by repeat' (first | with_reducible exact Below.refl _ _ | with_reducible assumption | with_reducible refine Below.alloc ?_ ?_ _ | with_reducible refine Below.setCell ?_ ?_ _ | with_reducible refine Below.drew ?_ | with_reducible refine below_drewN ?_ _ | with_reducible refine Below.trans ?_ (Below.mono (by with_reducible assumption) ?_) | omega | (simp <;> omega))) none) (by simp))).mono ?_
      rintro e w1 ⟨rfl, hown1, hs0, hb1⟩
      obtain ⟨hcc1, hff1⟩ := bcell hb1
      have hs1 := hb1.size
      (try simp at hs1)
      (try simp at hs0)
      have hz4 : w.heap.size < w1.heap.size := by omega
      have hz5 : w.heap.size + 1 < w1.heap.size := by omega
      have hB1 : Below w.heap.size w w1 := (by repeat' (first | with_reducible exact Below.refl _ _ | with_reducible assumption | with_reducible refine Below.alloc ?_ ?_ _ | with_reducible refine Below.setCell ?_ ?_ _ | with_reducible refine Below.drew ?_ | with_reducible refine below_drewN ?_ _ | with_reducible refine Below.trans ?_ (Below.mono (by with_reducible assumption) ?_) | omega | (simp <;> omega)))
      have hsz2 : ((w.alloc (.cells #[.map (some b)] 131)).alloc (.cells #[.map none] 131)).heap.size = w.heap.size + 1 + 1 := by simp
      rw [hsz2] at hown1
      clear hl
      have hbne : w.heap.size + 1 < w.heap.size + 1 + 1 := by omega
      go_wp2_with (first | (at_mapUpdate; refine wpList_mapUpdate_own _ rfl _ _ _ 77 rfl 64 3 law_loc Try.underlying77 _ (w.heap.size + 1 + 1) L D rfl hown1 (by unfold maxLen; omega) _ _ _ rfl rfl (keyOf_int_mk Try.underlying64 (wf_loc h0 h1 hL)) _ [] (plainElem_int Try.underlying3 wk) ?_; intro w2 hown2 hg2; obtain ⟨hcc2, hff2⟩ := grown_cell hg2 (b := w.heap.size + 1) (by first | omega | (simp; omega)) (by intro e; injection e with e; omega)))
      have e6 : w2.cell? ⟨w.heap.size + 1, 0, none⟩ = some (.map none) := by go_simp
      have hB2 : Below w.heap.size w w2 := Below.grown (w := w1) (by repeat' (first | with_reducible exact Below.refl _ _ | with_reducible assumption | with_reducible refine Below.alloc ?_ ?_ _ | with_reducible refine Below.setCell ?_ ?_ _ | with_reducible refine Below.drew ?_ | with_reducible refine below_drewN ?_ _ | with_reducible refine Below.trans ?_ (Below.mono (by with_reducible assumption) ?_) | omega | (simp <;> omega))) hg2 (by omega) (fun j hj => by cases hj; omega)
      refine bodyPost_ret (v := .agg #[.map (some (w.heap.size + 1 + 1))]) (by simp [results, Try.results80, go_sem, e6]) rfl ?_
      have hk2 := hi.put h0 h1 (.lit (.int .i64 k))
      refine ⟨_, rfl, ⟨Hpos.out, .inr ⟨_, _, rfl, (own_fit hown2 law_loc hk2).setCell ?_ _, hk2, ?_⟩⟩, (by repeat' (first | with_reducible exact Below.refl _ _ | with_reducible assumption | with_reducible refine Below.alloc ?_ ?_ _ | with_reducible refine Below.setCell ?_ ?_ _ | with_reducible refine Below.drew ?_ | with_reducible refine below_drewN ?_ _ | with_reducible refine Below.trans ?_ (Below.mono (by with_reducible assumption) ?_) | omega | (simp <;> omega)))⟩
      · first | omega | (simp; done) | (simp; omega)
      · show ∀ x, _ → _ = DataW.lit (.int .i64 (withF f z k x))
        rw [hwf.out]
        exact reads_upd hi.isMap Hf.out z k (wf_loc h0 h1 hL)
/-- The pointwise maximum. -/
def joinF (f g : Int → Int) (z : Int) : Int := max (f z) (g z)
theorem joinF_pos {L : Nat} {f g : Int → Int} (hf : ∀ z, 0 ≤ f z ∧ (z < 0 ∨ (L : Int) ≤ z → f z = 0)) (hg : ∀ z, 0 ≤ g z ∧ (z < 0 ∨ (L : Int) ≤ z → g z = 0)) : ∀ y, 0 ≤ joinF f g y ∧ (y < 0 ∨ (L : Int) ≤ y → joinF f g y = 0) := by
  intro y
  have h1 := hf y
  have h2 := hg y
  unfold joinF
  exact ⟨by omega, fun h => by omega⟩
theorem joinF_zero {f g : Int → Int} (hf : ∀ z, 0 ≤ f z) (hg : ∀ z, g z = 0) : joinF f g = f := by
  funext z
  unfold joinF
  rw [hg z]
  have := hf z
  omega
/-- The loop of Join: what is left to look at, what has been made. -/
def JInv (L ba B : Nat) (Da : DataW Unit) (G : (Lit → Bool) → Int → Int) (w1 wr : World) : Prop := ∃ (left : Lit → Bool) (cnt : Nat) (Do : DataW Unit), wr.ranges Try.prog 64 (plainElem Try.prog 3) ba w1.heap.size L Da left cnt ∧ wr.ownsMap Try.prog 64 (plainElem Try.prog 3) B L Do ∧ KeysIn Do L ∧ (∀ z, (Lit.int .i64 z).wf = true → Do.atKey (.int .i64 z) (.lit (.int .i64 0)) = .lit (.int .i64 (G left z))) ∧ (∀ kl, left kl = true → Maps.has Da kl = true) ∧ Below B w1 wr
/-- A map of no entries names no location. -/
theorem zero_of_size {L : Nat} (hL : L ≤ 4096) {D : DataW Unit} {f : Int → Int} (hk : KeysIn D L) (h0 : Maps.size D = 0) (hp : ∀ z, 0 ≤ f z ∧ (z < 0 ∨ (L : Int) ≤ z → f z = 0)) (hf : ∀ z, (Lit.int .i64 z).wf = true → D.atKey (.int .i64 z) (.lit (.int .i64 0)) = .lit (.int .i64 (f z))) : ∀ z, f z = 0 := by
  obtain ⟨es, rfl, _⟩ := hk
  obtain rfl : es = [] := List.eq_nil_of_length_eq_zero h0
  intro z
  by_cases h : 0 ≤ z ∧ z < (L : Int)
  · exact (info_inj (hf z (wf_loc h.1 h.2 hL))).symm
  · exact (hp z).2 (by omega)
set_option maxHeartbeats 2000000 in
set_option maxRecDepth 100000 in
theorem view_join (L : Nat) (hL : L ≤ 4096) (a b : VwV) (w : World) (ha : a.R L w) (hb : b.R L w) :
    Calls Try.prog 89 #[.agg #[.map a.v], .agg #[.map b.v]] w fun e w' => ∃ v', e = .returned (.agg #[.map v']) ∧ VwV.R L w' ⟨v', joinF a.f b.f⟩ ∧ Below w.heap.size w w' := by
  obtain ⟨av, f⟩ := a
  obtain ⟨bv, g⟩ := b
  have hp := joinF_pos ha.1 hb.1
  have Hp := hide hp
  have Ha := hide ha
  obtain ⟨hb0, hbR⟩ := hb
  simp only at hbR hb0 hp
  rcases hbR with ⟨rfl, hg⟩ | ⟨b, D, rfl, hown, hi, hg⟩
  · have hj : Hid (joinF f g = f) := hide (joinF_zero (fun z => (Ha.out.1 z).1) hg)
    clear hg hp ha
    go_enter Try.func89, Try.ntmps89
    go_wp2_with fail
    refine bodyPost_ret (v := .agg #[.map av]) (by simp [results, Try.results89, go_sem]) rfl ⟨_, rfl, by rw [hj.out]; exact Ha.out.below (by repeat' (first | with_reducible exact Below.refl _ _ | with_reducible assumption | with_reducible refine Below.alloc ?_ ?_ _ | with_reducible refine Below.setCell ?_ ?_ _ | with_reducible refine Below.drew ?_ | with_reducible refine below_drewN ?_ _ | with_reducible refine Below.trans ?_ (Below.mono (by with_reducible assumption) ?_) | omega | (simp <;> omega))), (by repeat' (first | with_reducible exact Below.refl _ _ | with_reducible assumption | with_reducible refine Below.alloc ?_ ?_ _ | with_reducible refine Below.setCell ?_ ?_ _ | with_reducible refine Below.drew ?_ | with_reducible refine below_drewN ?_ _ | with_reducible refine Below.trans ?_ (Below.mono (by with_reducible assumption) ?_) | omega | (simp <;> omega)))⟩
  · by_cases hz : Maps.size D = 0
    · have hj : Hid (joinF f g = f) := hide (joinF_zero (fun z => (Ha.out.1 z).1) (zero_of_size hL hi hz hb0 hg))
      clear hg hp ha
      go_enter Try.func89, Try.ntmps89
      go_wp2_with (first | (at_len; refine wpList_len_own _ rfl _ 77 rfl 64 3 Try.underlying77 _ b L D rfl (hown.kept (grown_of_below (by repeat' (first | with_reducible exact Below.refl _ _ | with_reducible assumption | with_reducible refine Below.alloc ?_ ?_ _ | with_reducible refine Below.setCell ?_ ?_ _ | with_reducible refine Below.drew ?_ | with_reducible refine below_drewN ?_ _ | with_reducible refine Below.trans ?_ (Below.mono (by with_reducible assumption) ?_) | omega | (simp <;> omega))) none) (by simp)) ?_))
      refine bodyPost_ret (v := .agg #[.map av]) (by simp [results, Try.results89, go_sem]) rfl ⟨_, rfl, by rw [hj.out]; exact Ha.out.below (by repeat' (first | with_reducible exact Below.refl _ _ | with_reducible assumption | with_reducible refine Below.alloc ?_ ?_ _ | with_reducible refine Below.setCell ?_ ?_ _ | with_reducible refine Below.drew ?_ | with_reducible refine below_drewN ?_ _ | with_reducible refine Below.trans ?_ (Below.mono (by with_reducible assumption) ?_) | omega | (simp <;> omega))), (by repeat' (first | with_reducible exact Below.refl _ _ | with_reducible assumption | with_reducible refine Below.alloc ?_ ?_ _ | with_reducible refine Below.setCell ?_ ?_ _ | with_reducible refine Below.drew ?_ | with_reducible refine below_drewN ?_ _ | with_reducible refine Below.trans ?_ (Below.mono (by with_reducible assumption) ?_) | omega | (simp <;> omega)))⟩
    · have hz2 : ¬ ((Maps.size D : Int) = 0) := by omega
      have hz3 : ((Maps.size D : Int) == 0) = false := by simpa using hz
      have Hg := hide hg
      clear hg hp ha
      go_enter Try.func89, Try.ntmps89
      go_wp2_with (first | (at_len; refine wpList_len_own _ rfl _ 77 rfl 64 3 Try.underlying77 _ b L D rfl (hown.kept (grown_of_below (by repeat' (first | with_reducible exact Below.refl _ _ | with_reducible assumption | with_reducible refine Below.alloc ?_ ?_ _ | with_reducible refine Below.setCell ?_ ?_ _ | with_reducible refine Below.drew ?_ | with_reducible refine below_drewN ?_ _ | with_reducible refine Below.trans ?_ (Below.mono (by with_reducible assumption) ?_) | omega | (simp <;> omega))) none) (by simp)) ?_))
      refine (clone_own _ (hown.kept (grown_of_below (by repeat' (first | with_reducible exact Below.refl _ _ | with_reducible assumption | with_reducible refine Below.alloc ?_ ?_ _ | with_reducible refine Below.setCell ?_ ?_ _ | with_reducible refine Below.drew ?_ | with_reducible refine below_drewN ?_ _ | with_reducible refine Below.trans ?_ (Below.mono (by with_reducible assumption) ?_) | omega | (simp <;> omega))) none) (by simp))).mono ?_
      rintro e w1 ⟨rfl, hown1, hs0, hb1⟩
      obtain ⟨hcc1, hff1⟩ := bcell hb1
      (try simp at hs0)
      have hsz3 : (((w.alloc (.cells #[.map av] 131)).alloc (.cells #[.map (some b)] 131)).alloc (.cells #[.map none] 131)).heap.size = w.heap.size + 1 + 1 + 1 := by simp
      rw [hsz3] at hown1
      have hz4 : w.heap.size < w1.heap.size := by omega
      have hz5 : w.heap.size + 1 < w1.heap.size := by omega
      have hz6 : w.heap.size + 1 + 1 < w1.heap.size := by omega
      have hB1 : Below w.heap.size w w1 := (by repeat' (first | with_reducible exact Below.refl _ _ | with_reducible assumption | with_reducible refine Below.alloc ?_ ?_ _ | with_reducible refine Below.setCell ?_ ?_ _ | with_reducible refine Below.drew ?_ | with_reducible refine below_drewN ?_ _ | with_reducible refine Below.trans ?_ (Below.mono (by with_reducible assumption) ?_) | omega | (simp <;> omega)))
      have e4 : w1.cell? ⟨w.heap.size + 1 + 1, 0, none⟩ = some (.map none) := by go_simp
      have f4 : w1.frozen? ⟨w.heap.size + 1 + 1, 0, none⟩ = false := by go_simp
      have Ha1 := hide (Ha.out.below hB1)
      obtain ⟨ha0, haR⟩ := Ha.out
      simp only at haR ha0
      rcases haR with ⟨rfl, hf⟩ | ⟨ba, Da, rfl, hownA0, -, -⟩
      · have hj : Hid (joinF f g = g) := hide (by
          funext z
          unfold joinF
          rw [hf z]
          have := (hb0 z).1
          omega)
        have hrn := fun W => run_range_nilMap (P := Try.prog) W _ _ _ Try.underlying77
        have hnn := @run_next_nilMap Try.prog
        clear hf
        go_wp2_with fail
        refine wp_loop_rounds 1 ?_
        rw [rounds_succ]
        go_wp2_with fail
        have e5 : ∀ o, ((w1.setCell ⟨w.heap.size + 1 + 1, 0, none⟩ (.map (some (w.heap.size + 1 + 1 + 1)))).alloc o).cell? ⟨w.heap.size + 1 + 1, 0, none⟩ = some (.map (some (w.heap.size + 1 + 1 + 1))) := fun o => by go_simp
        refine bodyPost_ret (v := .agg #[.map (some (w.heap.size + 1 + 1 + 1))]) (by simp [results, Try.results89, go_sem, e5]) rfl ⟨_, rfl, ?_, (by repeat' (first | with_reducible exact Below.refl _ _ | with_reducible assumption | with_reducible refine Below.alloc ?_ ?_ _ | with_reducible refine Below.setCell ?_ ?_ _ | with_reducible refine Below.drew ?_ | with_reducible refine below_drewN ?_ _ | with_reducible refine Below.trans ?_ (Below.mono (by with_reducible assumption) ?_) | omega | (simp <;> omega)))⟩
        rw [hj.out]
        refine ⟨hb0, .inr ⟨_, D, rfl, ?_, hi, Hg.out⟩⟩
        exact (hown1.setCell (by first | omega | (simp; done) | (simp; omega)) _).alloc _
      · have hba := hownA0.lt
        clear hownA0
        obtain ⟨-, haR⟩ := Ha1.out
        simp only at haR
        obtain ⟨hx, -⟩ | ⟨ba', Da, hx, hownA, hiA, hfA⟩ := haR
        · cases hx
        injection hx with hx
        subst hx
        have HfA := hide hfA
        clear hfA
        obtain ⟨G, hG⟩ : ∃ G : (Lit → Bool) → Int → Int, G = fun left z => if left (.int .i64 z) = true then g z else joinF f g z := ⟨_, rfl⟩
        have HG := hide hG
        have hG0 : ∀ z, (Lit.int .i64 z).wf = true → D.atKey (.int .i64 z) (.lit (.int .i64 0)) = .lit (.int .i64 (G (Maps.has Da) z)) := by
          intro z wz
          rw [Hg.out z wz, hG]
          simp only
          split
          · rfl
          · rename_i hn
            have h0 : f z = 0 := (info_inj ((atKey_of_not_has (by simpa using hn) _).symm.trans (HfA.out z wz))).symm
            have h1 := (hb0 z).1
            unfold joinF
            rw [h0, show max (0 : Int) (g z) = g z by omega]
        have HG0 := hide hG0
        clear hG0 hG
        go_wp2_with (first
          | (at_range; refine wpList_range_own _ rfl _ 77 rfl 64 3 law_loc Try.underlying77 _ ba L Da rfl hownA ?_; intro w7 hrg7 hg7 hs7))
        go_frame
        have hB7 : Below (w.heap.size + 1 + 1 + 1) w1 w7 := (Below.refl _ _).grown hg7 (by omega) (fun j hj => by cases hj)
        have hown7 := hown1.kept hg7 (by simp)
        have Hrg7 := hide hrg7
        clear hrg7 hg7 hown1
        go_loopw [6] (fun _ wr => JInv L ba (w.heap.size + 1 + 1 + 1) Da G w1 wr) (fun _ wr => wr.rangeLeft ba w1.heap.size)
        case atStart => exact ⟨_, _, D, Hrg7.out, hown7, hi, HG0.out, fun _ h => h, hB7⟩
        case round =>
          obtain ⟨left, cnt, Do, hrg, hownO, hiO, hfO, hsub, hB⟩ := hrel
          have HfO := hide hfO
          have Hsub := hide hsub
          have Hrg := hide hrg
          have hsz := hB.size
          have e4r := (hB.cell (p := ⟨w.heap.size + 1 + 1, 0, none⟩) (Nat.lt_succ_self _)).trans e4
          have f4r : wr.frozen? ⟨w.heap.size + 1 + 1, 0, none⟩ = false := ((bcellB hB).2 _ _ (Nat.lt_succ_self _)).trans f4
          clear hfO hsub
          go_wp2_with (first
            | (at_next; refine wpList_next_ranges_ii _ rfl _ rfl 64 3 .i64 .i64 law_loc Try.underlying64 Try.underlying3 ba w1.heap.size L _ _ _ rfl hrg ?_ ?_))
          · intro _ hl0
            have Hl0 := hide hl0
            clear hl0
            go_wp2_with fail
            refine bodyPost_ret (v := .agg #[.map (some (w.heap.size + 1 + 1 + 1))]) (by simp [results, Try.results89, go_sem, e4r]) rfl ⟨_, rfl, ⟨Hp.out, .inr ⟨_, Do, rfl, hownO.setCell ?_ _, hiO, ?_⟩⟩, ?_⟩
            · first | omega | (simp; done) | (simp; omega)
            · intro z wz
              rw [HfO.out z wz, HG.out]
              simp only [Hl0.out, Bool.false_eq_true, if_false]
            · have hBw : Below w.heap.size w wr := hB1.trans (hB.mono (by omega))
              exact (by repeat' (first | with_reducible exact Below.refl _ _ | with_reducible assumption | with_reducible refine Below.alloc ?_ ?_ _ | with_reducible refine Below.setCell ?_ ?_ _ | with_reducible refine Below.drew ?_ | with_reducible refine below_drewN ?_ _ | with_reducible refine Below.trans ?_ (Below.mono (by with_reducible assumption) ?_) | omega | (simp <;> omega)))
          · intro x c w8 cnt8 hwx hwc hlx hat hrg8 hlt8 hg8 hs8 hen
            obtain ⟨x', hxe, hx0, hx1⟩ := hiA.has (Hsub.out _ hlx)
            injection hxe with _ hxe
            subst hxe
            have hc : c = f x := info_inj ((hat (.lit (.int .i64 0))).symm.trans (HfA.out x hwx))
            subst hc
            have hGx : Hid (G left x = g x) := hide (by rw [HG.out]; exact if_pos hlx)
            have hgx := (hb0 x).1
            have hB8 : Below (w.heap.size + 1 + 1 + 1) w1 w8 := hB.grown hg8 (by omega) (fun j hj => by cases hj; omega)
            have hown8 := hownO.kept hg8 (by intro e; injection e with e; omega)
            have hkx := keyOf_int_mk (P := Try.prog) Try.underlying64 hwx
            have hnew : Hid (∀ z, upd (G left) x (joinF f g x) z = G (fun k => left k && !k.sameKey (.int .i64 x)) z) := hide (by
              intro z
              rw [HG.out]
              unfold upd
              by_cases hzx : z = x
              · subst hzx
                simp [Lit.sameKey]
              · have hs : (Lit.int .i64 z).sameKey (.int .i64 x) = false := by simp [Lit.sameKey, hzx]
                simp [hzx, hs])
            have Hsub8 : Hid (∀ kl, (left kl && !kl.sameKey (.int .i64 x)) = true → Maps.has Da kl = true) := hide (fun kl hkl => Hsub.out kl (by simp only [Bool.and_eq_true] at hkl; exact hkl.1))
            have Hrg8 := hide hrg8
            have Hlt8 := hide hlt8
            have hbne : ba ≠ w.heap.size + 1 + 1 + 1 := by omega
            clear hat hlx hrg8 hlt8 hrg
            by_cases hmx : g x < f x
            · have hjx : Hid (joinF f g x = f x) := hide (by unfold joinF; omega)
              go_wp2_with (first
                | (at_lookup; refine wpList_lookup_own_int _ rfl _ _ 77 rfl 64 3 .i64 law_loc Try.underlying77 Try.underlying3 (zero_int _) (w.heap.size + 1 + 1 + 1) L Do rfl hown8 _ _ rfl hkx ?_; intro c2 hat2 hwc2; obtain rfl : c2 = g x := (info_inj (hat2.symm.trans (HfO.out x hwx))).trans hGx.out)
                | (at_mapUpdate; refine wpList_mapUpdate_own _ rfl _ _ _ 77 rfl 64 3 law_loc Try.underlying77 _ (w.heap.size + 1 + 1 + 1) L Do rfl hown8 (by unfold maxLen; omega) _ _ _ rfl rfl hkx _ [] (plainElem_int Try.underlying3 hwc) ?_; intro w9 hown9 hg9))
              have hiN := hiO.put hx0 hx1 (.lit (.int .i64 (f x)))
              have hB9 : Below (w.heap.size + 1 + 1 + 1) w1 w9 := hB8.grown hg9 (by omega) (fun j hj => by cases hj; omega)
              exact ⟨⟨_, cnt8, _, Hrg8.out.kept hg9 (by intro e; injection e with e; omega) (by intro e; injection e with e; omega), own_fit hown9 law_loc hiN, hiN, fun z wz => by rw [← hnew.out z, hjx.out]; exact reads_upd hiO.isMap HfO.out x (f x) hwx z wz, Hsub8.out, hB9⟩, by rw [(Hrg8.out.kept hg9 (by intro e; injection e with e; omega) (by intro e; injection e with e; omega)).left_eq, Hrg.out.left_eq]; exact Hlt8.out⟩
            · have hjx : Hid (joinF f g x = g x) := hide (by unfold joinF; omega)
              go_wp2_with (first
                | (at_lookup; refine wpList_lookup_own_int _ rfl _ _ 77 rfl 64 3 .i64 law_loc Try.underlying77 Try.underlying3 (zero_int _) (w.heap.size + 1 + 1 + 1) L Do rfl hown8 _ _ rfl hkx ?_; intro c2 hat2 hwc2; obtain rfl : c2 = g x := (info_inj (hat2.symm.trans (HfO.out x hwx))).trans hGx.out)
                | (at_mapUpdate; refine wpList_mapUpdate_own _ rfl _ _ _ 77 rfl 64 3 law_loc Try.underlying77 _ (w.heap.size + 1 + 1 + 1) L Do rfl hown8 (by unfold maxLen; omega) _ _ _ rfl rfl hkx _ [] (plainElem_int Try.underlying3 hwc2) ?_; intro w9 hown9 hg9))
              have hiN := hiO.put hx0 hx1 (.lit (.int .i64 (g x)))
              have hB9 : Below (w.heap.size + 1 + 1 + 1) w1 w9 := hB8.grown hg9 (by omega) (fun j hj => by cases hj; omega)
              exact ⟨⟨_, cnt8, _, Hrg8.out.kept hg9 (by intro e; injection e with e; omega) (by intro e; injection e with e; omega), own_fit hown9 law_loc hiN, hiN, fun z wz => by rw [← hnew.out z, hjx.out]; exact reads_upd hiO.isMap HfO.out x (g x) hwx z wz, Hsub8.out, hB9⟩, by rw [(Hrg8.out.kept hg9 (by intro e; injection e with e; omega) (by intro e; injection e with e; omega)).left_eq, Hrg.out.left_eq]; exact Hlt8.out⟩
end Go.Proofs.Ytmjkopejbdipcaa
namespace Go.Proofs.Ytmjkopejbdipcaa
set_option linter.unusedSimpArgs false
set_option linter.unusedVariables false
open Go.RowKit Go.Maps
def m0 : MsgV := ⟨z3, 0, ⟨none, fun _ => 0⟩⟩
theorem hist_len (h : HistV) (w : World) : Calls Try.prog 81 #[(.agg #[.slice (h).A (h).l.length (h).cap])] w fun e w' => e = .returned (.int .i64 h.l.length) ∧ Below w.heap.size w w' := by
  go_enter Try.func81, Try.ntmps81
  go_wp2_with fail
  go_ret
  exact ⟨rfl, (by repeat' (first | with_reducible exact Below.refl _ _ | with_reducible assumption | with_reducible refine Below.alloc ?_ ?_ _ | with_reducible refine Below.setCell ?_ ?_ _ | with_reducible refine Below.drew ?_ | with_reducible refine below_drewN ?_ _ | with_reducible refine Below.trans ?_ (Below.mono (by with_reducible assumption) ?_) | omega | (simp <;> omega)))⟩
theorem hist_elem {L : Nat} {w : World} {h : HistV} (hr : h.R L w) {k : Nat} {m : MsgV} (hm : h.l[k]? = some m) : ∃ b off, h.A = some ⟨b, off, none⟩ ∧ b < w.heap.size ∧ w.cell? ⟨b, off + k * 5, none⟩ = some (.int .i64 m.x.v) ∧ w.cell? ⟨b, off + k * 5 + 1, none⟩ = some (.int .u32 m.x.r) ∧ w.cell? ⟨b, off + k * 5 + 2, none⟩ = some (.int .u32 m.x.f) ∧ w.cell? ⟨b, off + k * 5 + 3, none⟩ = some (.int .i64 m.t) ∧ w.cell? ⟨b, off + k * 5 + 4, none⟩ = some (.map m.a.v) := by
  have hk : k < h.l.length := (List.getElem?_eq_some_iff.1 hm).1
  obtain ⟨b, off, e, hb, hc⟩ := Rd.elem hr.2.2.1 msgc_len hk hm
  exact ⟨b, off, e, hb, hc 0 _ rfl, hc 1 _ rfl, hc 2 _ rfl, hc 3 _ rfl, hc 4 _ rfl⟩
set_option maxRecDepth 100000 in
theorem hist_at (L : Nat) (h : HistV) (k : Nat) (m : MsgV) (w : World) (hr : h.R L w) (hm : h.l[k]? = some m) : Calls Try.prog 62 #[(.agg #[.slice (h).A (h).l.length (h).cap]), .int .i64 k] w fun e w' => e = .returned (.tuple #[(.agg #[.int .i64 (m).x.v, .int .u32 (m).x.r, .int .u32 (m).x.f, .int .i64 (m).t, .map (m).a.v]), .bool true]) ∧ Below w.heap.size w w' := by
  have hk : k < h.l.length := (List.getElem?_eq_some_iff.1 hm).1
  obtain ⟨b, off, e, hb, c0, c1, c2, c3, c4⟩ := hist_elem hr hm
  obtain ⟨A, cap, l⟩ := h
  obtain ⟨x, t, a⟩ := m
  simp only at e c0 c1 c2 c3 c4 hk
  subst e
  have hk0 : ¬ ((k : Int) < 0) := by omega
  have hk1 : (0 : Int) ≤ (k : Int) := by omega
  have hk2 : (k : Int) < (l.length : Int) := by omega
  have hk3 : ¬ ((l.length : Int) ≤ (k : Int)) := by omega
  clear hm hr
  go_enter Try.func62, Try.ntmps62
  go_wp2_with fail
  exact bodyPost_ret (v := .tuple #[(.agg #[.int .i64 (MsgV.mk x t a).x.v, .int .u32 (MsgV.mk x t a).x.r, .int .u32 (MsgV.mk x t a).x.f, .int .i64 (MsgV.mk x t a).t, .map (MsgV.mk x t a).a.v]), .bool true]) (by simp [results, Try.results62, go_sem]) rfl ⟨rfl, (by repeat' (first | with_reducible exact Below.refl _ _ | with_reducible assumption | with_reducible refine Below.alloc ?_ ?_ _ | with_reducible refine Below.setCell ?_ ?_ _ | with_reducible refine Below.drew ?_ | with_reducible refine below_drewN ?_ _ | with_reducible refine Below.trans ?_ (Below.mono (by with_reducible assumption) ?_) | omega | (simp <;> omega)))⟩
set_option maxHeartbeats 1000000 in
set_option maxRecDepth 100000 in
theorem hist_last (L : Nat) (h : HistV) (k : Nat) (m : MsgV) (w : World) (hr : h.R L w) (hk : h.l.length = k + 1) (hk6 : k ≤ 1000000) (hm : h.l[k]? = some m) : Calls Try.prog 48 #[(.agg #[.slice (h).A (h).l.length (h).cap])] w fun e w' => e = .returned (.agg #[.int .i64 (m).x.v, .int .u32 (m).x.r, .int .u32 (m).x.f, .int .i64 (m).t, .map (m).a.v]) ∧ Below w.heap.size w w' := by
  have hsub : IntKind.i64.wrap ((h.l.length : Int) - 1) = (k : Int) := by rw [show (h.l.length : Int) - 1 = (k : Int) by omega]; exact IntWalk.i64_in _ (by omega)
  have Hr := hide hr
  clear hr hk
  go_enter Try.func48, Try.ntmps48
  go_wp2_with (first
    | (go_at_call 62; refine (hist_at L h k m _ (Hr.out.below (by repeat' (first | with_reducible exact Below.refl _ _ | with_reducible assumption | with_reducible refine Below.alloc ?_ ?_ _ | with_reducible refine Below.setCell ?_ ?_ _ | with_reducible refine Below.drew ?_ | with_reducible refine below_drewN ?_ _ | with_reducible refine Below.trans ?_ (Below.mono (by with_reducible assumption) ?_) | omega | (simp <;> omega)))) hm).mono ?_; rintro e w1 ⟨rfl, hb1⟩; obtain ⟨hcc1, hff1⟩ := bcell hb1; have hs1 := hb1.size; (try simp at hs1); have hz4 : w.heap.size < w1.heap.size := (by omega); have hz5 : w.heap.size + 1 < w1.heap.size := (by omega)))
  exact bodyPost_ret (v := (.agg #[.int .i64 (m).x.v, .int .u32 (m).x.r, .int .u32 (m).x.f, .int .i64 (m).t, .map (m).a.v])) (by simp [results, Try.results48, go_sem]; go_simp) rfl ⟨rfl, (by repeat' (first | with_reducible exact Below.refl _ _ | with_reducible assumption | with_reducible refine Below.alloc ?_ ?_ _ | with_reducible refine Below.setCell ?_ ?_ _ | with_reducible refine Below.drew ?_ | with_reducible refine below_drewN ?_ _ | with_reducible refine Below.trans ?_ (Below.mono (by with_reducible assumption) ?_) | omega | (simp <;> omega)))⟩
/-- Which message a choice selects. -/
def chooseL (n : Nat) (i c : Int) : Int := let last : Int := (n : Int) - 1; last - max c 0 % (last - max 0 (min i last) + 1)
theorem hist_new (L : Nat) (x : W3) (w : World) : Calls Try.prog 34 #[(.agg #[.int .i64 (x).v, .int .u32 (x).r, .int .u32 (x).f])] w fun e w' => ∃ A cap, e = .returned (.agg #[.slice A 1 cap]) ∧ HistV.R L w' ⟨A, cap, [⟨x, 0, ⟨none, fun _ => 0⟩⟩]⟩ ∧ Below w.heap.size w w' := by
  go_enter Try.func34, Try.ntmps34
  go_wp2_with fail
  refine bodyPost_ret (v := .agg #[.slice (some ⟨w.heap.size + 1 + 1, 0, none⟩) 1 1]) (by simp [results, Try.results34, go_sem]) rfl ⟨_, _, rfl, ⟨by simp, by simp, ⟨by simp [msgc], fun _ => ⟨_, 0, rfl, by simp, fun j u hu => ?_⟩⟩, fun m hm => ?_⟩, (by repeat' (first | with_reducible exact Below.refl _ _ | with_reducible assumption | with_reducible refine Below.alloc ?_ ?_ _ | with_reducible refine Below.setCell ?_ ?_ _ | with_reducible refine Below.drew ?_ | with_reducible refine below_drewN ?_ _ | with_reducible refine Below.trans ?_ (Below.mono (by with_reducible assumption) ?_) | omega | (simp <;> omega)))⟩
  · simp only [List.flatMap_cons, List.flatMap_nil, List.append_nil, msgc] at hu
    match j, hu with
    | 0, hu => injection hu with hu; subst hu; go_simp
    | 1, hu => injection hu with hu; subst hu; go_simp
    | 2, hu => injection hu with hu; subst hu; go_simp
    | 3, hu => injection hu with hu; subst hu; go_simp
    | 4, hu => injection hu with hu; subst hu; go_simp
  · obtain rfl := List.mem_singleton.1 hm
    exact VwV.R.nil L _
theorem info_msg : (Try.prog.info? 133).map (fun i => (i.zero, i.size, i.bytes)) = some (some (.agg #[.int .i64 0, .int .u32 0, .int .u32 0, .int .i64 0, .map none]), 5, 32) := by kernel_rfl
theorem clipm_any (A : Option Addr) (m cp : Nat) (w : World) (h : m ≤ cp) :
    Calls Try.prog 88 #[.slice A m cp] w fun e w' => e = .returned (.slice A m m) ∧ w = w' := by
  go_enter Try.func88, Try.ntmps88
  go_wp2
  all_goals go_ret
  all_goals exact ⟨rfl, rfl⟩
set_option maxHeartbeats 2000000 in
set_option maxRecDepth 100000 in
theorem hist_add (L : Nat) (h : HistV) (m : MsgV) (w : World) (hr : h.R L w) (hm : m.a.R L w) (hn : h.l.length ≤ 1000000) : Calls Try.prog 82 #[(.agg #[.slice (h).A (h).l.length (h).cap]), (.agg #[.int .i64 (m).x.v, .int .u32 (m).x.r, .int .u32 (m).x.f, .int .i64 (m).t, .map (m).a.v])] w fun e w' => ∃ g cap', e = .returned (.agg #[.slice (some ⟨g, 0, none⟩) (h.l.length + 1) cap']) ∧ w.heap.size ≤ g ∧ HistV.R L w' ⟨some ⟨g, 0, none⟩, cap', h.l ++ [m]⟩ ∧ Below w.heap.size w w' := by
  obtain ⟨i0, hi, iz0, iz1, iz2⟩ := info_parts info_msg
  obtain ⟨A, cap, l⟩ := h
  obtain ⟨hc, hA, hrd, hv⟩ := hr
  simp only at hc hA hrd hv hn
  have Hr := hide hrd
  have HA := hide hA
  have Hv := hide hv
  have Hm := hide hm
  clear hrd hA hv hm
  go_enter Try.func82, Try.ntmps82
  go_wp2_with fail
  go_region_law (first
      | (refine step_append_new rfl (.tmp 7) (.tmp 9) 110 rfl 133 i0 _ 5 32 Try.underlying110 hi iz0 iz1 iz2 w.heap.size A l.length (l.flatMap msgc) (by simp [Act.eval, Act.put]) (Hr.out.below (by repeat' (first | with_reducible exact Below.refl _ _ | with_reducible assumption | with_reducible refine Below.alloc ?_ ?_ _ | with_reducible refine Below.setCell ?_ ?_ _ | with_reducible refine Below.drew ?_ | with_reducible refine below_drewN ?_ _ | with_reducible refine Below.trans ?_ (Below.mono (by with_reducible assumption) ?_) | omega | (simp <;> omega)))) HA.out ⟨w.heap.size + 1 + 1 + 1, 0, none⟩ 1 (msgc m) (by simp [Act.eval, Act.put]) rfl ?_ (by unfold maxLen; omega) (by omega) ?_; (focus (intro j u hu; exact alloc_cell _ _ _ (by simp) hu)); intro cp' w2 hcp hrd2 hb2 hz3; obtain ⟨hcc2, hff2⟩ := bcell hb2)
      | (go_simp; go_at_call 88; refine (clipm_any A l.length cap _ hc).mono ?_; rintro e w3 ⟨rfl, rfl⟩))
  all_goals go_wp2_with fail
  all_goals have hs2 := hz3
  all_goals (try simp at hs2)
  all_goals have hzr : w.heap.size + 1 + 1 < w2.heap.size := by omega
  all_goals have e4 : w2.cell? ⟨w.heap.size + 1 + 1, 0, none⟩ = some (.slice none 0 0) := by go_simp
  all_goals have hB2 : Below w.heap.size w w2 := (by repeat' (first | with_reducible exact Below.refl _ _ | with_reducible assumption | with_reducible refine Below.alloc ?_ ?_ _ | with_reducible refine Below.setCell ?_ ?_ _ | with_reducible refine Below.drew ?_ | with_reducible refine below_drewN ?_ _ | with_reducible refine Below.trans ?_ (Below.mono (by with_reducible assumption) ?_) | omega | (simp <;> omega)))
  all_goals have h7 := hrd2.out
  all_goals (try simp at h7)
  all_goals refine bodyPost_ret (v := .agg #[.slice (some ⟨w.heap.size + 1 + 1 + 1 + 1, 0, none⟩) (l.length + 1) cp']) (by simp [results, Try.results82, go_sem, e4]) rfl ⟨_, _, rfl, by omega, ⟨by simpa using hcp.out, (fun e => by cases e), ?_, ?_⟩, (by repeat' (first | with_reducible exact Below.refl _ _ | with_reducible assumption | with_reducible refine Below.alloc ?_ ?_ _ | with_reducible refine Below.setCell ?_ ?_ _ | with_reducible refine Below.drew ?_ | with_reducible refine below_drewN ?_ _ | with_reducible refine Below.trans ?_ (Below.mono (by with_reducible assumption) ?_) | omega | (simp <;> omega)))⟩
  all_goals first
    | (intro x hx
       have hx' := List.mem_append.1 hx
       have hBw : Below w.heap.size w (w2.setCell ⟨w.heap.size + 1 + 1, 0, none⟩ (.slice (some ⟨w.heap.size + 1 + 1 + 1 + 1, 0, none⟩) (l.length + 1) cp')) := (by repeat' (first | with_reducible exact Below.refl _ _ | with_reducible assumption | with_reducible refine Below.alloc ?_ ?_ _ | with_reducible refine Below.setCell ?_ ?_ _ | with_reducible refine Below.drew ?_ | with_reducible refine below_drewN ?_ _ | with_reducible refine Below.trans ?_ (Below.mono (by with_reducible assumption) ?_) | omega | (simp <;> omega)))
       rcases hx' with hx' | hx'
       · exact (Hv.out x hx').below hBw
       · obtain rfl := List.mem_singleton.1 hx'
         exact Hm.out.below hBw
       done)
    | skip
  all_goals with_reducible refine Rd.set_far ?_ (by omega) _
  all_goals (show Rd w2 _ 5 _ (l ++ [m]).length ((l ++ [m]).flatMap msgc))
  all_goals rw [List.length_append, List.flatMap_append, List.flatMap_cons, List.flatMap_nil, List.append_nil]
  all_goals exact Rd.more h7 (by simp)
theorem chooseL_of (n : Nat) (i c F C R : Int) (hF : F = max 0 (min i ((n : Int) - 1))) (hC : C = max c 0) (hR : R = (n : Int) - 1 - C % ((n : Int) - 1 - F + 1)) (h0 : 0 < n) (hn : n ≤ 1000000) : wrap64 R = chooseL n i c := by
  unfold chooseL
  simp only
  rw [← hF, ← hC, ← hR]
  have h1 : 0 ≤ C % ((n : Int) - 1 - F + 1) := Int.emod_nonneg _ (by omega)
  have h2 : C % ((n : Int) - 1 - F + 1) < (n : Int) - 1 - F + 1 := Int.emod_lt_of_pos _ (by omega)
  unfold wrap64
  omega
set_option maxRecDepth 100000 in
theorem hist_choose (h : HistV) (n : Nat) (i c : Int) (w : World) (hn : h.l.length = n) (h0 : 0 < n) (hn6 : n ≤ 1000000) (hc : (Lit.int .i64 c).wf = true) :
    Calls Try.prog 87 #[(.agg #[.slice (h).A (h).l.length (h).cap]), .int .i64 i, .int .i64 c] w fun e w' => e = .returned (.int .i64 (chooseL n i c)) ∧ Below w.heap.size w w' := by
  obtain ⟨A, cap, l⟩ := h
  simp only at hn
  have hsub : IntKind.i64.wrap ((l.length : Int) - 1) = (n : Int) - 1 := by rw [hn]; exact IntWalk.i64_in _ (by omega)
  have hl0 : ¬ ((n : Int) - 1 < 0) := by omega
  have H0 := hide h0
  have H6 := hide hn6
  clear hn
  go_enter Try.func87, Try.ntmps87
  go_wp2_with fail
  all_goals go_ret
  all_goals refine ⟨congrArg (fun z => Ending.returned (Value.int IntKind.i64 z)) ?_, (by repeat' (first | with_reducible exact Below.refl _ _ | with_reducible assumption | with_reducible refine Below.alloc ?_ ?_ _ | with_reducible refine Below.setCell ?_ ?_ _ | with_reducible refine Below.drew ?_ | with_reducible refine below_drewN ?_ _ | with_reducible refine Below.trans ?_ (Below.mono (by with_reducible assumption) ?_) | omega | (simp <;> omega)))⟩
  all_goals clear hc hsub hl0
  all_goals rename_i g1 g2
  all_goals have g3 := h
  all_goals clear h
  all_goals have z0 := H0.out
  all_goals by_cases z1 : (n : Int) - 1 < i
  all_goals (try rw [if_pos z1] at g1)
  all_goals (try rw [if_pos z1] at g2)
  all_goals (try rw [if_pos z1] at g3)
  all_goals (try rw [if_neg z1] at g1)
  all_goals (try rw [if_neg z1] at g2)
  all_goals (try rw [if_neg z1] at g3)
  all_goals first
    | (refine chooseL_of n i c ((n : Int) - 1) 0 _ ?_ ?_ ?_ H0.out H6.out <;> (first | omega | (simp; done)); done)
    | (refine chooseL_of n i c ((n : Int) - 1) c _ ?_ ?_ ?_ H0.out H6.out <;> (first | omega | (simp; done)); done)
    | (refine chooseL_of n i c i 0 _ ?_ ?_ ?_ H0.out H6.out <;> (first | omega | (simp; done)); done)
    | (refine chooseL_of n i c i c _ ?_ ?_ ?_ H0.out H6.out <;> (first | omega | (simp; done)); done)
    | (refine chooseL_of n i c 0 0 _ ?_ ?_ ?_ H0.out H6.out <;> (first | omega | (simp; done)); done)
    | (refine chooseL_of n i c 0 c _ ?_ ?_ ?_ H0.out H6.out <;> (first | omega | (simp; done)); done)
end Go.Proofs.Ytmjkopejbdipcaa
namespace Go.Proofs.Ytmjkopejbdipcaa
set_option linter.unusedSimpArgs false
set_option linter.unusedVariables false
open Go.RowKit Go.Maps
theorem mem_size (m : MemV) (w : World) : Calls Try.prog 37 #[(.agg #[.slice (m).pA (m).hs.length (m).pc, .slice (m).vA (m).vs.length (m).vc])] w fun e w' => e = .returned (.tuple #[.int .i64 m.vs.length, .int .i64 m.hs.length]) ∧ Below w.heap.size w w' := by
  go_enter Try.func37, Try.ntmps37
  go_wp2_with fail
  go_region
  all_goals go_wp2
  all_goals go_ret2
  all_goals exact ⟨rfl, (by repeat' (first | with_reducible exact Below.refl _ _ | with_reducible assumption | with_reducible refine Below.alloc ?_ ?_ _ | with_reducible refine Below.setCell ?_ ?_ _ | with_reducible refine Below.drew ?_ | with_reducible refine below_drewN ?_ _ | with_reducible refine Below.trans ?_ (Below.mono (by with_reducible assumption) ?_) | omega | (simp <;> omega)))⟩
theorem mem_thread (m : MemV) (t : Int) (w : World) : Calls Try.prog 84 #[(.agg #[.slice (m).pA (m).hs.length (m).pc, .slice (m).vA (m).vs.length (m).vc]), .int .i64 t] w fun e w' => e = .returned (.bool (decide (1 ≤ t) && decide (t ≤ (m.vs.length : Int)))) ∧ Below w.heap.size w w' := by
  by_cases h1 : 1 ≤ t
  all_goals by_cases h2 : t ≤ (m.vs.length : Int)
  all_goals go_enter Try.func84, Try.ntmps84
  all_goals go_wp2_with fail
  all_goals go_ret
  all_goals exact ⟨by simp [h1, h2] <;> omega, (by repeat' (first | with_reducible exact Below.refl _ _ | with_reducible assumption | with_reducible refine Below.alloc ?_ ?_ _ | with_reducible refine Below.setCell ?_ ?_ _ | with_reducible refine Below.drew ?_ | with_reducible refine below_drewN ?_ _ | with_reducible refine Below.trans ?_ (Below.mono (by with_reducible assumption) ?_) | omega | (simp <;> omega)))⟩
theorem mem_place (m : MemV) (z : Int) (w : World) : Calls Try.prog 61 #[(.agg #[.slice (m).pA (m).hs.length (m).pc, .slice (m).vA (m).vs.length (m).vc]), .int .i64 z] w fun e w' => e = .returned (.bool (decide (0 ≤ z) && decide (z < (m.hs.length : Int)))) ∧ Below w.heap.size w w' := by
  by_cases h1 : 0 ≤ z
  all_goals by_cases h2 : z < (m.hs.length : Int)
  all_goals go_enter Try.func61, Try.ntmps61
  all_goals go_wp2_with fail
  all_goals go_ret
  all_goals exact ⟨by simp [h1, h2] <;> omega, (by repeat' (first | with_reducible exact Below.refl _ _ | with_reducible assumption | with_reducible refine Below.alloc ?_ ?_ _ | with_reducible refine Below.setCell ?_ ?_ _ | with_reducible refine Below.drew ?_ | with_reducible refine below_drewN ?_ _ | with_reducible refine Below.trans ?_ (Below.mono (by with_reducible assumption) ?_) | omega | (simp <;> omega)))⟩
theorem mem_wrong (m : MemV) (t z : Int) (w : World) (h1 : 1 ≤ t) (h2 : t ≤ (m.vs.length : Int)) (h3 : 0 ≤ z) (h4 : z < (m.hs.length : Int)) : Calls Try.prog 74 #[(.agg #[.slice (m).pA (m).hs.length (m).pc, .slice (m).vA (m).vs.length (m).vc]), .int .i64 t, .int .i64 z] w fun e w' => e = .returned (.int .i64 0) ∧ Below w.heap.size w w' := by
  have ht := fun W => mem_thread m t W
  rw [show (decide (1 ≤ t) && decide (t ≤ (m.vs.length : Int))) = true by simp [h1, h2]] at ht
  have hp := fun W => mem_place m z W
  rw [show (decide (0 ≤ z) && decide (z < (m.hs.length : Int))) = true by simp [h3, h4]] at hp
  have Ht := hide ht
  have Hp := hide hp
  clear ht hp
  go_enter Try.func74, Try.ntmps74
  go_wp2_with (first
    | (go_at_call 84; refine (Ht.out _).mono ?_; rintro e w1 ⟨rfl, hb1⟩; obtain ⟨hcc1, hff1⟩ := bcell hb1; have hs1 := hb1.size; (try simp at hs1); have hz4 : w.heap.size < w1.heap.size := (by omega))
    | (go_at_call 61; refine (Hp.out _).mono ?_; rintro e w2 ⟨rfl, hb2⟩; obtain ⟨hcc2, hff2⟩ := bcell hb2; have hs2 := hb2.size; (try simp at hs2)))
  go_ret
  exact ⟨rfl, (by repeat' (first | with_reducible exact Below.refl _ _ | with_reducible assumption | with_reducible refine Below.alloc ?_ ?_ _ | with_reducible refine Below.setCell ?_ ?_ _ | with_reducible refine Below.drew ?_ | with_reducible refine below_drewN ?_ _ | with_reducible refine Below.trans ?_ (Below.mono (by with_reducible assumption) ?_) | omega | (simp <;> omega)))⟩
set_option maxRecDepth 100000 in
theorem mem_seen (m : MemV) (t : Nat) (a : VwV) (w : World) (hR : m.R w) (ha : m.vs[t]? = some a) (hn : m.vs.length ≤ 1000) : Calls Try.prog 79 #[(.agg #[.slice (m).pA (m).hs.length (m).pc, .slice (m).vA (m).vs.length (m).vc]), .int .i64 ((t : Int) + 1)] w fun e w' => e = .returned (.agg #[.map a.v]) ∧ Below w.heap.size w w' := by
  have htn : t < m.vs.length := (List.getElem?_eq_some_iff.1 ha).1
  obtain ⟨b, off, e, hb, c0⟩ := Rd.one hR.2.2.2.1 htn ha
  have ht := fun W => mem_thread m ((t : Int) + 1) W
  rw [show (decide (1 ≤ (t : Int) + 1) && decide ((t : Int) + 1 ≤ (m.vs.length : Int))) = true by simp; omega] at ht
  have Ht := hide ht
  obtain ⟨pA, pc, hs, vA, vc, vs⟩ := m
  simp only at e htn hn
  subst e
  have h0 : (0 : Int) ≤ (t : Int) := by omega
  have h1 : (t : Int) < (vs.length : Int) := by omega
  have hw : IntKind.i64.wrap ((t : Int) + 1 - 1) = (t : Int) := by rw [show (t : Int) + 1 - 1 = (t : Int) by omega]; exact IntWalk.i64_in _ (by omega)
  have hw2 : IntKind.i64.wrap (t : Int) = (t : Int) := IntWalk.i64_in _ (by omega)
  unfold vwv at c0
  have hbz1 : b < w.heap.size + 1 := by omega
  have hbz2 : b < w.heap.size + 1 + 1 := by omega
  clear ht hR ha
  go_enter Try.func79, Try.ntmps79
  go_wp2_with (first | (go_at_call 84; refine (Ht.out _).mono ?_; rintro e w1 ⟨rfl, hb1⟩; obtain ⟨hcc1, hff1⟩ := bcell hb1; have hs1 := hb1.size; (try simp at hs1); have hz4 : w.heap.size < w1.heap.size := (by omega)))
  exact bodyPost_ret (v := .agg #[.map a.v]) (by simp [results, Try.results79, go_sem]; (try go_simp)) rfl ⟨rfl, (by repeat' (first | with_reducible exact Below.refl _ _ | with_reducible assumption | with_reducible refine Below.alloc ?_ ?_ _ | with_reducible refine Below.setCell ?_ ?_ _ | with_reducible refine Below.drew ?_ | with_reducible refine below_drewN ?_ _ | with_reducible refine Below.trans ?_ (Below.mono (by with_reducible assumption) ?_) | omega | (simp <;> omega)))⟩
set_option maxRecDepth 100000 in
theorem mem_history (m : MemV) (k : Nat) (h : HistV) (w : World) (hR : m.R w) (hh : m.hs[k]? = some h) : Calls Try.prog 47 #[(.agg #[.slice (m).pA (m).hs.length (m).pc, .slice (m).vA (m).vs.length (m).vc]), .int .i64 k] w fun e w' => e = .returned (.tuple #[(.agg #[.slice (h).A (h).l.length (h).cap]), .bool true]) ∧ Below w.heap.size w w' := by
  have htn : k < m.hs.length := (List.getElem?_eq_some_iff.1 hh).1
  obtain ⟨b, off, e, hb, c0⟩ := Rd.one hR.1.2.2.1 htn hh
  have ht := fun W => mem_place m k W
  rw [show (decide (0 ≤ (k : Int)) && decide ((k : Int) < (m.hs.length : Int))) = true by simp; omega] at ht
  have Ht := hide ht
  obtain ⟨pA, pc, hs, vA, vc, vs⟩ := m
  simp only at e htn
  subst e
  have h0 : (0 : Int) ≤ (k : Int) := by omega
  have h1 : (k : Int) < (hs.length : Int) := by omega
  unfold histv at c0
  have hbz1 : b < w.heap.size + 1 := by omega
  have hbz2 : b < w.heap.size + 1 + 1 := by omega
  clear ht hR hh
  go_enter Try.func47, Try.ntmps47
  go_wp2_with (first | (go_at_call 61; refine (Ht.out _).mono ?_; rintro e w1 ⟨rfl, hb1⟩; obtain ⟨hcc1, hff1⟩ := bcell hb1; have hs1 := hb1.size; (try simp at hs1); have hz4 : w.heap.size < w1.heap.size := (by omega)))
  exact bodyPost_ret (v := .tuple #[(.agg #[.slice (h).A (h).l.length (h).cap]), .bool true]) (by simp [results, Try.results47, go_sem]; (try go_simp)) rfl ⟨rfl, (by repeat' (first | with_reducible exact Below.refl _ _ | with_reducible assumption | with_reducible refine Below.alloc ?_ ?_ _ | with_reducible refine Below.setCell ?_ ?_ _ | with_reducible refine Below.drew ?_ | with_reducible refine below_drewN ?_ _ | with_reducible refine Below.trans ?_ (Below.mono (by with_reducible assumption) ?_) | omega | (simp <;> omega)))⟩
theorem field_msg (a b c d e : Value) (w : World) : (Instr.field 133 (.agg #[a, b, c, d, e]) 0).run Try.prog w = .ok (.agg #[a, b, c]) w := by kernel_rfl
set_option maxHeartbeats 1000000 in
set_option maxRecDepth 100000 in
theorem mem_last (m : MemV) (k j : Nat) (h : HistV) (g : MsgV) (w : World) (hR : m.R w) (hh : m.hs[k]? = some h) (hj : h.l.length = j + 1) (hj6 : j ≤ 1000000) (hg : h.l[j]? = some g) : Calls Try.prog 29 #[(.agg #[.slice (m).pA (m).hs.length (m).pc, .slice (m).vA (m).vs.length (m).vc]), .int .i64 k] w fun e w' => e = .returned (.tuple #[(.agg #[.int .i64 (g.x).v, .int .u32 (g.x).r, .int .u32 (g.x).f]), .bool true]) ∧ Below w.heap.size w w' := by
  have hhR : h.R m.hs.length w := hR.1.2.2.2 h (List.mem_of_getElem? hh)
  have Hh := hide hhR
  have HR := hide hR
  have HL := hide (fun W (hw : h.R m.hs.length W) => hist_last m.hs.length h j g W hw hj hj6 hg)
  have HH := hide (fun W (hw : m.R W) => mem_history m k h W hw hh)
  clear hj hR hhR hh hg
  have hfm := field_msg
  go_enter Try.func29, Try.ntmps29
  go_wp2_with (first
    | (go_at_call 47; refine (HH.out _ (HR.out.below (by repeat' (first | with_reducible exact Below.refl _ _ | with_reducible assumption | with_reducible refine Below.alloc ?_ ?_ _ | with_reducible refine Below.setCell ?_ ?_ _ | with_reducible refine Below.drew ?_ | with_reducible refine below_drewN ?_ _ | with_reducible refine Below.trans ?_ (Below.mono (by with_reducible assumption) ?_) | omega | (simp <;> omega))))).mono ?_; rintro e w1 ⟨rfl, hb1⟩; obtain ⟨hcc1, hff1⟩ := bcell hb1; have hs1 := hb1.size; (try simp at hs1); have hz4 : w.heap.size < w1.heap.size := (by omega); have hz6 : w.heap.size + 1 < w1.heap.size := (by omega); have hz7 : w.heap.size + 1 < w1.heap.size + 1 := (by omega))
    | (go_at_call 48; refine (HL.out _ (Hh.out.below (by repeat' (first | with_reducible exact Below.refl _ _ | with_reducible assumption | with_reducible refine Below.alloc ?_ ?_ _ | with_reducible refine Below.setCell ?_ ?_ _ | with_reducible refine Below.drew ?_ | with_reducible refine below_drewN ?_ _ | with_reducible refine Below.trans ?_ (Below.mono (by with_reducible assumption) ?_) | omega | (simp <;> omega))))).mono ?_; rintro e w2 ⟨rfl, hb2⟩; obtain ⟨hcc2, hff2⟩ := bcell hb2; have hs2 := hb2.size; (try simp at hs2); have hz5 : w.heap.size + 1 < w2.heap.size := (by omega)))
  exact bodyPost_ret (v := .tuple #[(.agg #[.int .i64 (g.x).v, .int .u32 (g.x).r, .int .u32 (g.x).f]), .bool true]) (by simp [results, Try.results29, go_sem]; (try go_simp)) rfl ⟨rfl, (by repeat' (first | with_reducible exact Below.refl _ _ | with_reducible assumption | with_reducible refine Below.alloc ?_ ?_ _ | with_reducible refine Below.setCell ?_ ?_ _ | with_reducible refine Below.drew ?_ | with_reducible refine below_drewN ?_ _ | with_reducible refine Below.trans ?_ (Below.mono (by with_reducible assumption) ?_) | omega | (simp <;> omega)))⟩
end Go.Proofs.Ytmjkopejbdipcaa
