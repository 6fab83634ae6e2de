/- Package view: At, With, Join. -/
import Derived.Deep.RegionHeld3
import Derived.Test.YtnnmenmifphadaaGreatDoorU14
set_option linter.unusedSimpArgs false
set_option linter.unusedVariables false
set_option maxRecDepth 100000
set_option maxHeartbeats 40000000
namespace Go.Proofs.YtnnmenmifphadaaGreatDoor
open Go.RowKit Go.Maps
theorem wf_loc {L : Nat} {z : Int} (h0 : 0 ≤ z) (h1 : z < (L : Int)) (hL : L ≤ 4096) : (Lit.int .i64 z).wf = true := WalkArith.wf_i64 oM
theorem view_at (L : Nat) (hL : L ≤ 4096) (a : VwV) (z : Int) (w : World) (h : a.R L w) (h0 : 0 ≤ z) (h1 : z < (L : Int)) :
  Calls Tryz.prog 48 #[.agg #[.map a.v], .int .i64 z] w (Ret (.int .i64 (a.f z)) w) := by
 have hl := fun o => look_any (h.mapF.alloc o) Tryz.underlying63 Tryz.underlying119 (wf_loc h0 h1 hL)
 go_enter Tryz.func48, Tryz.ntmps48
 go_wp2_with fail
 go_ret
 exact ⟨rfl, ab0⟩
def withF (f : Int → Int) (z k : Int) : Int → Int := if k ≤ f z then f else upd f z k
theorem withF_pos {L : Nat} {f : Int → Int} {z k : Int} (hf : ∀ z, 0 ≤ f z ∧ (z < 0 ∨ (L : Int) ≤ z → f z = 0)) (h0 : 0 ≤ z) (h1 : z < (L : Int)) : ∀ y, 0 ≤ withF f z k y ∧ (y < 0 ∨ (L : Int) ≤ y → withF f z k y = 0) := by
 intro y
 unfold withF upd
 have h2 := hf y
 have h3 := (hf z).1
 split
 ·exact h2
 ·simp only
  split
  ·exact ⟨by omega, fun h => by omega⟩
  ·exact h2
theorem view_with (L : Nat) (hL : L ≤ 4096) (a : VwV) (z k : Int) (w : World) (h : a.R L w) (h0 : 0 ≤ z) (h1 : z < (L : Int)) (wk : (Lit.int .i64 k).wf = true) :
  Calls Tryz.prog 167 #[.agg #[.map a.v], .int .i64 z, .int .i64 k] w fun e w' => ∃ v', e = .returned (.agg #[.map v']) ∧ VwV.R L w' ⟨v', withF a.f z k⟩ ∧ Below w.heap.size w w' := by
 obtain ⟨v, f⟩ := a
 have hl := fun o o2 => look_any ((h.mapF.alloc o).alloc o2) Tryz.underlying63 Tryz.underlying119 (wf_loc h0 h1 hL)
 simp only at hl
 have hq := fun (w : World) (r : Option Nat) => run_eql_map_nil (P := Tryz.prog) w _ _ _ r Tryz.underlying119
 have hmm := @run_makeMap Tryz.prog
 have hz0 : ¬ (z < 0) := by omega
 have hz1 : ¬ (z ≥ 4096) := by omega
 have hz2 : ¬ (4096 ≤ z) := by omega
 by_cases hk : k ≤ f z
 ·have hwf : Hid (withF f z k = f) := hide (if_pos hk)
  go_enter Tryz.func167, Tryz.ntmps167
  go_wp2_with fail
  refine bodyPost_ret (v := .agg #[.map v]) (by simp [results, Tryz.results167, go_sem]) rfl ⟨_, rfl, by rw [hwf.out]; exact h.below ab0, ab0⟩
 ·have hwf : Hid (withF f z k = upd f z k) := hide (if_neg hk)
  have Hpos := hide (withF_pos (k := k) h.1 h0 h1)
  have hk1 : 1 ≤ k := by
   have q : 0 ≤ f z := (h.1 z).1
   omega
  have Hzp : Hid (∃ y, 0 < withF f z k y) := hide ⟨z, by rw [hwf.out]; unfold upd; simp only [if_true]; omega⟩
  obtain ⟨-, hR⟩ := h
  simp only at hR
  rcases hR with ⟨rfl, hf⟩ | ⟨b, D, rfl, hown, hi, hf, hpz⟩
  ·have Hf := hide hf
   have hwm : Hid (w.heap.size + 1 + 1 = ((w.alloc (.cells #[.map none] 121)).alloc (.cells #[.map none] 121)).heap.size) := hide sM
   clear hf
   go_enter Tryz.func167, Tryz.ntmps167
   go_wp2_with fail
   refine (clone_nil _).mono ?_
   rintro e w1 ⟨rfl, hw1⟩
   have hz5 : w.heap.size + 1 < w1.heap.size := by rw [hw1]; simp
   have hz4 : w.heap.size < w1.heap.size := by omega
   have hB1 : Below w.heap.size w w1 := by rw [hw1]; exact ab0
   have c1 : w1.cell? ⟨w.heap.size + 1, 0, none⟩ = some (.map none) := by rw [hw1]; go_simp
   have d1 : w1.frozen? ⟨w.heap.size + 1, 0, none⟩ = false := by rw [hw1]; go_simp
   clear hw1 hl
   have hownM : (w1.alloc (.map #[] 0)).ownsMap Tryz.prog 63 (plainElem (H := Unit) Tryz.prog 3) w1.heap.size L (.map []) := (World.ownsMap_made _ _ _ _).mono (Nat.zero_le _)
   go_wp2_with (first | (at_mapUpdate; refine wpList_mapUpdate_own _ rfl _ _ _ 119 rfl 63 3 law_loc Tryz.underlying119 _ (w1.heap.size) L (.map []) rfl hownM (by unfold maxLen; omega) _ _ _ rfl rfl (keyOf_int_mk Tryz.underlying63 (wf_loc h0 h1 hL)) _ [] (plainElem_int Tryz.underlying3 wk) ?_; intro w2 hown2 hg2; obtain ⟨hcc2, hff2⟩ := grown_cell hg2 (b := w.heap.size + 1) (by first | omega | (simp; omega)) (by intro e; injection e with e; omega)))
   have e6 : w2.cell? ⟨w.heap.size + 1, 0, none⟩ = some (.map none) := by go_simp
   have hB2 : Below w.heap.size w w2 := Below.grown (w := w1.alloc (.map #[] 0)) ab0 hg2 (by simp; omega) (fun j hj => by cases hj; omega)
   refine bodyPost_ret (v := .agg #[.map (some w1.heap.size)]) (by simp [results, Tryz.results167, go_sem, e6]) rfl ?_
   have hk2 : KeysIn ((DataW.map [] : DataW Unit).put (.int .i64 z) (.lit (.int .i64 k))) L := (KeysIn.empty L).put h0 h1 _ (goodVal_lit hk1)
   refine ⟨_, rfl, ⟨Hpos.out, .inr ⟨_, _, rfl, (own_fit hown2 law_loc hk2).setCell ?_ _, hk2, ?_, Hzp.out⟩⟩, ab0⟩
   ·first | omega | (simp; done) | (simp; omega)
   ·show ∀ x, _ → _ = DataW.lit (.int .i64 (withF f z k x))
    rw [hwf.out]
    exact reads_upd (f := f) isMap_empty (fun x wx => by rw [Hf.out x]; rfl) z k (wf_loc h0 h1 hL)
  ·have Hf := hide hf
   clear hf
   go_enter Tryz.func167, Tryz.ntmps167
   go_wp2_with fail
   refine (clone_own _ (hown.kept (grown_of_below ab0 none) sM)).mono ?_
   rintro e w1 ⟨rfl, hown1, hs0, hb1⟩
   obtain ⟨hcc1, hff1⟩ := bcell hb1
   have hs1 := hb1.size
   (try simp at hs1)
   (try simp at hs0)
   have hz4 : w.heap.size < w1.heap.size := by omega
   have hz5 : w.heap.size + 1 < w1.heap.size := by omega
   have hB1 : Below w.heap.size w w1 := ab0
   have hsz2 : ((w.alloc (.cells #[.map (some b)] 121)).alloc (.cells #[.map none] 121)).heap.size = w.heap.size + 1 + 1 := by simp
   rw [hsz2] at hown1
   clear hl
   have hbne : w.heap.size + 1 < w.heap.size + 1 + 1 := by omega
   go_wp2_with (first | (at_mapUpdate; refine wpList_mapUpdate_own _ rfl _ _ _ 119 rfl 63 3 law_loc Tryz.underlying119 _ (w.heap.size + 1 + 1) L D rfl hown1 (by unfold maxLen; omega) _ _ _ rfl rfl (keyOf_int_mk Tryz.underlying63 (wf_loc h0 h1 hL)) _ [] (plainElem_int Tryz.underlying3 wk) ?_; intro w2 hown2 hg2; obtain ⟨hcc2, hff2⟩ := grown_cell hg2 (b := w.heap.size + 1) (by first | omega | (simp; omega)) (by intro e; injection e with e; omega)))
   have e6 : w2.cell? ⟨w.heap.size + 1, 0, none⟩ = some (.map none) := by go_simp
   have hB2 : Below w.heap.size w w2 := Below.grown (w := w1) ab0 hg2 oM (fun j hj => by cases hj; omega)
   refine bodyPost_ret (v := .agg #[.map (some (w.heap.size + 1 + 1))]) (by simp [results, Tryz.results167, go_sem, e6]) rfl ?_
   have hk2 := hi.put h0 h1 (.lit (.int .i64 k)) (goodVal_lit hk1)
   refine ⟨_, rfl, ⟨Hpos.out, .inr ⟨_, _, rfl, (own_fit hown2 law_loc hk2).setCell ?_ _, hk2, ?_, Hzp.out⟩⟩, ab0⟩
   ·first | omega | (simp; done) | (simp; omega)
   ·show ∀ x, _ → _ = DataW.lit (.int .i64 (withF f z k x))
    rw [hwf.out]
    exact reads_upd hi.isMap Hf.out z k (wf_loc h0 h1 hL)
def joinF (f g : Int → Int) (z : Int) : Int := max (f z) (g z)
theorem joinF_pos {L : Nat} {f g : Int → Int} (hf : ∀ z, 0 ≤ f z ∧ (z < 0 ∨ (L : Int) ≤ z → f z = 0)) (hg : ∀ z, 0 ≤ g z ∧ (z < 0 ∨ (L : Int) ≤ z → g z = 0)) : ∀ y, 0 ≤ joinF f g y ∧ (y < 0 ∨ (L : Int) ≤ y → joinF f g y = 0) := by
 intro y
 have h1 := hf y
 have h2 := hg y
 unfold joinF
 exact ⟨by omega, fun h => by omega⟩
theorem joinF_zero {f g : Int → Int} (hf : ∀ z, 0 ≤ f z) (hg : ∀ z, g z = 0) : joinF f g = f := by
 funext z
 unfold joinF
 rw [hg z]
 have := hf z
 omega
def JInv (L ba B : Nat) (Da : DataW Unit) (G : (Lit → Bool) → Int → Int) (w1 wr : World) : Prop := ∃ (left : Lit → Bool) (cnt : Nat) (Do : DataW Unit), wr.ranges Tryz.prog 63 (plainElem Tryz.prog 3) ba w1.heap.size L Da left cnt ∧ wr.ownsMap Tryz.prog 63 (plainElem Tryz.prog 3) B L Do ∧ KeysIn Do L ∧ (∀ z, (Lit.int .i64 z).wf = true → Do.atKey (.int .i64 z) (.lit (.int .i64 0)) = .lit (.int .i64 (G left z))) ∧ (∀ kl, left kl = true → Maps.has Da kl = true) ∧ Below B w1 wr
theorem zero_of_size {L : Nat} (hL : L ≤ 4096) {D : DataW Unit} {f : Int → Int} (hk : KeysIn D L) (h0 : Maps.size D = 0) (hp : ∀ z, 0 ≤ f z ∧ (z < 0 ∨ (L : Int) ≤ z → f z = 0)) (hf : ∀ z, (Lit.int .i64 z).wf = true → D.atKey (.int .i64 z) (.lit (.int .i64 0)) = .lit (.int .i64 (f z))) : ∀ z, f z = 0 := by
 obtain ⟨es, rfl, _⟩ := hk
 obtain rfl : es = [] := List.eq_nil_of_length_eq_zero h0
 intro z
 by_cases h : 0 ≤ z ∧ z < (L : Int)
 ·exact (info_inj (hf z (wf_loc h.1 h.2 hL))).symm
 ·exact (hp z).2 oM
theorem view_join (L : Nat) (hL : L ≤ 4096) (a b : VwV) (w : World) (ha : a.R L w) (hb : b.R L w) :
  Calls Tryz.prog 178 #[.agg #[.map a.v], .agg #[.map b.v]] w fun e w' => ∃ v', e = .returned (.agg #[.map v']) ∧ VwV.R L w' ⟨v', joinF a.f b.f⟩ ∧ Below w.heap.size w w' := by
 obtain ⟨av, f⟩ := a
 obtain ⟨bv, g⟩ := b
 have hp := joinF_pos ha.1 hb.1
 have Hp := hide hp
 have Ha := hide ha
 obtain ⟨hb0, hbR⟩ := hb
 simp only at hbR hb0 hp
 rcases hbR with ⟨rfl, hg⟩ | ⟨b, D, rfl, hown, hi, hg, hpz⟩
 ·have hj : Hid (joinF f g = f) := hide (joinF_zero (fun z => (Ha.out.1 z).1) hg)
  clear hg hp ha
  go_enter Tryz.func178, Tryz.ntmps178
  go_wp2_with fail
  refine bodyPost_ret (v := .agg #[.map av]) (by simp [results, Tryz.results178, go_sem]) rfl ⟨_, rfl, by rw [hj.out]; exact Ha.out.below ab0, ab0⟩
 ·by_cases hz : Maps.size D = 0
  ·have hj : Hid (joinF f g = f) := hide (joinF_zero (fun z => (Ha.out.1 z).1) (zero_of_size hL hi hz hb0 hg))
   clear hg hp ha
   go_enter Tryz.func178, Tryz.ntmps178
   go_wp2_with (first | (at_len; refine wpList_len_own _ rfl _ 119 rfl 63 3 Tryz.underlying119 _ b L D rfl (hown.kept (grown_of_below ab0 none) sM) ?_))
   refine bodyPost_ret (v := .agg #[.map av]) (by simp [results, Tryz.results178, go_sem]) rfl ⟨_, rfl, by rw [hj.out]; exact Ha.out.below ab0, ab0⟩
  ·have hz2 : ¬ ((Maps.size D : Int) = 0) := by omega
   have hz3 : ((Maps.size D : Int) == 0) = false := by simpa using hz
   have Hg := hide hg
   have Hpz := hide hpz
   have Hjz : Hid (∃ y, 0 < joinF f g y) := hide (by obtain ⟨y, hy⟩ := hpz; exact ⟨y, by unfold joinF; omega⟩)
   clear hg hp ha hpz
   go_enter Tryz.func178, Tryz.ntmps178
   go_wp2_with (first | (at_len; refine wpList_len_own _ rfl _ 119 rfl 63 3 Tryz.underlying119 _ b L D rfl (hown.kept (grown_of_below ab0 none) sM) ?_))
   refine (clone_own _ (hown.kept (grown_of_below ab0 none) sM)).mono ?_
   rintro e w1 ⟨rfl, hown1, hs0, hb1⟩
   obtain ⟨hcc1, hff1⟩ := bcell hb1
   (try simp at hs0)
   have hsz3 : (((w.alloc (.cells #[.map av] 121)).alloc (.cells #[.map (some b)] 121)).alloc (.cells #[.map none] 121)).heap.size = w.heap.size + 1 + 1 + 1 := by simp
   rw [hsz3] at hown1
   have hz4 : w.heap.size < w1.heap.size := by omega
   have hz5 : w.heap.size + 1 < w1.heap.size := by omega
   have hz6 : w.heap.size + 1 + 1 < w1.heap.size := by omega
   have hB1 : Below w.heap.size w w1 := ab0
   have e4 : w1.cell? ⟨w.heap.size + 1 + 1, 0, none⟩ = some (.map none) := by go_simp
   have f4 : w1.frozen? ⟨w.heap.size + 1 + 1, 0, none⟩ = false := by go_simp
   have Ha1 := hide (Ha.out.below hB1)
   obtain ⟨ha0, haR⟩ := Ha.out
   simp only at haR ha0
   rcases haR with ⟨rfl, hf⟩ | ⟨ba, Da, rfl, hownA0, -, -, -⟩
   ·have hj : Hid (joinF f g = g) := hide (by
     funext z
     unfold joinF
     rw [hf z]
     have := (hb0 z).1
     omega)
    have hrn := fun W => run_range_nilMap (P := Tryz.prog) W _ _ _ Tryz.underlying119
    have hnn := @run_next_nilMap Tryz.prog
    clear hf
    go_wp2_with fail
    refine wp_loop_rounds 1 ?_
    rw [rounds_succ]
    go_wp2_with fail
    have e5 : ∀ o, ((w1.setCell ⟨w.heap.size + 1 + 1, 0, none⟩ (.map (some (w.heap.size + 1 + 1 + 1)))).alloc o).cell? ⟨w.heap.size + 1 + 1, 0, none⟩ = some (.map (some (w.heap.size + 1 + 1 + 1))) := fun o => by go_simp
    refine bodyPost_ret (v := .agg #[.map (some (w.heap.size + 1 + 1 + 1))]) (by simp [results, Tryz.results178, go_sem, e5]) rfl ⟨_, rfl, ?_, ab0⟩
    rw [hj.out]
    refine ⟨hb0, .inr ⟨_, D, rfl, ?_, hi, Hg.out, Hpz.out⟩⟩
    exact (hown1.setCell (by first | omega | (simp; done) | (simp; omega)) _).alloc _
   ·have hba := hownA0.lt
    clear hownA0
    obtain ⟨-, haR⟩ := Ha1.out
    simp only at haR
    obtain ⟨hx, -⟩ | ⟨ba', Da, hx, hownA, hiA, hfA, -⟩ := haR
    ·cases hx
    injection hx with hx
    subst hx
    have HfA := hide hfA
    clear hfA
    obtain ⟨G, hG⟩ : ∃ G : (Lit → Bool) → Int → Int, G = fun left z => if left (.int .i64 z) = true then g z else joinF f g z := ⟨_, rfl⟩
    have HG := hide hG
    have hG0 : ∀ z, (Lit.int .i64 z).wf = true → D.atKey (.int .i64 z) (.lit (.int .i64 0)) = .lit (.int .i64 (G (Maps.has Da) z)) := by
     intro z wz
     rw [Hg.out z wz, hG]
     simp only
     split
     ·rfl
     ·rename_i hn
      have h0 : f z = 0 := (info_inj ((atKey_of_not_has (by simpa using hn) _).symm.trans (HfA.out z wz))).symm
      have h1 := (hb0 z).1
      unfold joinF
      rw [h0, show max (0 : Int) (g z) = g z by omega]
    have HG0 := hide hG0
    clear hG0 hG
    go_wp2_with (first
     | (at_range; refine wpList_range_own _ rfl _ 119 rfl 63 3 law_loc Tryz.underlying119 _ ba L Da rfl hownA ?_; intro w7 hrg7 hg7 hs7))
    go_frame
    have hB7 : Below (w.heap.size + 1 + 1 + 1) w1 w7 := (Below.refl _ _).grown hg7 oM (fun j hj => by cases hj)
    have hown7 := hown1.kept hg7 sM
    have Hrg7 := hide hrg7
    clear hrg7 hg7 hown1
    go_loopw [6] (fun _ wr => JInv L ba (w.heap.size + 1 + 1 + 1) Da G w1 wr) (fun _ wr => wr.rangeLeft ba w1.heap.size)
    case atStart => exact ⟨_, _, D, Hrg7.out, hown7, hi, HG0.out, fun _ h => h, hB7⟩
    case round =>
     obtain ⟨left, cnt, Do, hrg, hownO, hiO, hfO, hsub, hB⟩ := hrel
     have HfO := hide hfO
     have Hsub := hide hsub
     have Hrg := hide hrg
     have hsz := hB.size
     have e4r := (hB.cell (p := ⟨w.heap.size + 1 + 1, 0, none⟩) (Nat.lt_succ_self _)).trans e4
     have f4r : wr.frozen? ⟨w.heap.size + 1 + 1, 0, none⟩ = false := ((bcellB hB).2 _ _ (Nat.lt_succ_self _)).trans f4
     clear hfO hsub
     go_wp2_with (first
      | (at_next; refine wpList_next_ranges_ii _ rfl _ rfl 63 3 .i64 .i64 law_loc Tryz.underlying63 Tryz.underlying3 ba w1.heap.size L _ _ _ rfl hrg ?_ ?_))
     ·intro _ hl0
      have Hl0 := hide hl0
      clear hl0
      go_wp2_with fail
      refine bodyPost_ret (v := .agg #[.map (some (w.heap.size + 1 + 1 + 1))]) (by simp [results, Tryz.results178, go_sem, e4r]) rfl ⟨_, rfl, ⟨Hp.out, .inr ⟨_, Do, rfl, hownO.setCell ?_ _, hiO, ?_, Hjz.out⟩⟩, ?_⟩
      ·first | omega | (simp; done) | (simp; omega)
      ·intro z wz
       rw [HfO.out z wz, HG.out]
       simp only [Hl0.out, Bool.false_eq_true, if_false]
      ·have hBw : Below w.heap.size w wr := hB1.trans (hB.mono oM)
       exact ab0
     ·intro x c w8 cnt8 hwx hwc hlx hat hrg8 hlt8 hg8 hs8 hen
      obtain ⟨x', hxe, hx0, hx1⟩ := hiA.has (Hsub.out _ hlx)
      injection hxe with _ hxe
      subst hxe
      have hc : c = f x := info_inj ((hat (.lit (.int .i64 0))).symm.trans (HfA.out x hwx))
      subst hc
      have hfx1 : 1 ≤ f x := hiA.pos (Hsub.out _ hlx) (HfA.out x hwx)
      have hGx : Hid (G left x = g x) := hide (by rw [HG.out]; exact if_pos hlx)
      have hgx := (hb0 x).1
      have hB8 : Below (w.heap.size + 1 + 1 + 1) w1 w8 := hB.grown hg8 oM (fun j hj => by cases hj; omega)
      have hown8 := hownO.kept hg8 (by intro e; injection e with e; omega)
      have hkx := keyOf_int_mk (P := Tryz.prog) Tryz.underlying63 hwx
      have hnew : Hid (∀ z, upd (G left) x (joinF f g x) z = G (fun k => left k && !k.sameKey (.int .i64 x)) z) := hide (by
       intro z
       rw [HG.out]
       unfold upd
       by_cases hzx : z = x
       ·subst hzx
        simp [Lit.sameKey]
       ·have hs : (Lit.int .i64 z).sameKey (.int .i64 x) = false := by simp [Lit.sameKey, hzx]
        simp [hzx, hs])
      have Hsub8 : Hid (∀ kl, (left kl && !kl.sameKey (.int .i64 x)) = true → Maps.has Da kl = true) := hide (fun kl hkl => Hsub.out kl (by simp only [Bool.and_eq_true] at hkl; exact hkl.1))
      have Hrg8 := hide hrg8
      have Hlt8 := hide hlt8
      have hbne : ba ≠ w.heap.size + 1 + 1 + 1 := by omega
      clear hat hlx hrg8 hlt8 hrg
      by_cases hmx : g x < f x
      ·have hjx : Hid (joinF f g x = f x) := hide (by unfold joinF; omega)
       go_wp2_with (first
        | (at_lookup; refine wpList_lookup_own_int _ rfl _ _ 119 rfl 63 3 .i64 law_loc Tryz.underlying119 Tryz.underlying3 (zero_int _) (w.heap.size + 1 + 1 + 1) L Do rfl hown8 _ _ rfl hkx ?_; intro c2 hat2 hwc2; obtain rfl : c2 = g x := (info_inj (hat2.symm.trans (HfO.out x hwx))).trans hGx.out)
        | (at_mapUpdate; refine wpList_mapUpdate_own _ rfl _ _ _ 119 rfl 63 3 law_loc Tryz.underlying119 _ (w.heap.size + 1 + 1 + 1) L Do rfl hown8 (by unfold maxLen; omega) _ _ _ rfl rfl hkx _ [] (plainElem_int Tryz.underlying3 hwc) ?_; intro w9 hown9 hg9))
       have hiN := hiO.put hx0 hx1 (.lit (.int .i64 (f x))) (goodVal_lit hfx1)
       have hB9 : Below (w.heap.size + 1 + 1 + 1) w1 w9 := hB8.grown hg9 oM (fun j hj => by cases hj; omega)
       exact ⟨⟨_, cnt8, _, Hrg8.out.kept hg9 (by intro e; injection e with e; omega) (by intro e; injection e with e; omega), own_fit hown9 law_loc hiN, hiN, fun z wz => by rw [← hnew.out z, hjx.out]; exact reads_upd hiO.isMap HfO.out x (f x) hwx z wz, Hsub8.out, hB9⟩, by rw [(Hrg8.out.kept hg9 (by intro e; injection e with e; omega) (by intro e; injection e with e; omega)).left_eq, Hrg.out.left_eq]; exact Hlt8.out⟩
      ·have hjx : Hid (joinF f g x = g x) := hide (by unfold joinF; omega)
       go_wp2_with (first
        | (at_lookup; refine wpList_lookup_own_int _ rfl _ _ 119 rfl 63 3 .i64 law_loc Tryz.underlying119 Tryz.underlying3 (zero_int _) (w.heap.size + 1 + 1 + 1) L Do rfl hown8 _ _ rfl hkx ?_; intro c2 hat2 hwc2; obtain rfl : c2 = g x := (info_inj (hat2.symm.trans (HfO.out x hwx))).trans hGx.out)
        | (at_mapUpdate; refine wpList_mapUpdate_own _ rfl _ _ _ 119 rfl 63 3 law_loc Tryz.underlying119 _ (w.heap.size + 1 + 1 + 1) L Do rfl hown8 (by unfold maxLen; omega) _ _ _ rfl rfl hkx _ [] (plainElem_int Tryz.underlying3 hwc2) ?_; intro w9 hown9 hg9))
       have hiN := hiO.put hx0 hx1 (.lit (.int .i64 (g x))) (goodVal_lit oM)
       have hB9 : Below (w.heap.size + 1 + 1 + 1) w1 w9 := hB8.grown hg9 oM (fun j hj => by cases hj; omega)
       exact ⟨⟨_, cnt8, _, Hrg8.out.kept hg9 (by intro e; injection e with e; omega) (by intro e; injection e with e; omega), own_fit hown9 law_loc hiN, hiN, fun z wz => by rw [← hnew.out z, hjx.out]; exact reads_upd hiO.isMap HfO.out x (g x) hwx z wz, Hsub8.out, hB9⟩, by rw [(Hrg8.out.kept hg9 (by intro e; injection e with e; omega) (by intro e; injection e with e; omega)).left_eq, Hrg.out.left_eq]; exact Hlt8.out⟩
open Go.WideElems (Fit rd rg rd_key)
def StrM (C : Nat) (w : World) : Prop := ∃ es clock, w.heap[C]? = some (.map es clock) ∧ ∀ x ∈ es.toList, keyOf Tryz.prog 63 x.key = none
theorem keyOf_str (v : Value) {kl : Lit} (h : keyOf Tryz.prog 9 v = some kl) : keyOf Tryz.prog 63 v = none := by
 have e1 := Tryz.underlying9
 have e2 := Tryz.underlying63
 generalize Tryz.prog = P at e1 e2 h ⊢
 simp only [keyOf, mapKey, e1, e2] at h ⊢
 cases v <;> simp_all
theorem StrM.of {H : Type} {R : Value → Option (DataW H × List MemPlace)} {C n : Nat} {D : DataW H} {w : World} (h : w.ownsMap Tryz.prog 9 R C n D) : StrM C w := by
 obtain ⟨es, clock, hb, F, _, _⟩ := h
 refine ⟨es, clock, hb, fun x hx => ?_⟩
 obtain ⟨y, hy⟩ := F.reads x hx
 exact keyOf_str _ (rd_key hy)
theorem Rd.grown {w w' : World} {B size n C : Nat} {A : Option Addr} {xs : List Value} (h : Rd w B size A n xs) (hs : 0 < size) (hC : StrM C w) (hg : w.grownBy w' (some C)) : Rd w' B size A n xs := by
 refine ⟨h.1, fun hn => ?_⟩
 obtain ⟨b, off, e, hB, hc⟩ := h.2 hn
 have hl : 0 < xs.length := by rw [h.1]; exact Nat.mul_pos hn hs
 have hne : b ≠ C := by
  rintro rfl
  obtain ⟨es, clock, hm, _⟩ := hC
  have q := hc 0 _ (List.getElem?_eq_getElem hl)
  obtain ⟨c, t, fr, hb⟩ := block_of_cell q
  rw [hm] at hb
  cases hb
 exact ⟨b, off, e, hB, fun j u hu => hg.cell (hc j u hu) (by intro e; injection e with e; exact hne e)⟩
theorem Rd.more' {w : World} {B B' size n : Nat} {A : Option Addr} {xs : List Value} (h : Rd w B size A n xs) (hB : B ≤ B') : Rd w B' size A n xs :=
 ⟨h.1, fun hn => by obtain ⟨b, off, e, hb, hc⟩ := h.2 hn; exact ⟨b, off, e, Nat.lt_of_lt_of_le hb hB, hc⟩⟩
theorem VwV.R.grown {L C : Nat} (hL : L ≤ 4096) {w w' : World} {a : VwV} (h : a.R L w) (hC : StrM C w) (hg : w.grownBy w' (some C)) : a.R L w' := by
 refine ⟨h.1, ?_⟩
 rcases h.2 with h2 | ⟨b, D, e, h1, h2, h3, h4⟩
 ·exact .inl h2
 ·refine .inr ⟨b, D, e, h1.kept hg ?_, h2, h3, h4⟩
  intro eb
  injection eb with eb
  subst eb
  obtain ⟨es, clock, hb, F, _, hD⟩ := h1
  obtain ⟨es', clock', hb', hno⟩ := hC
  rw [hb] at hb'
  injection hb' with hb'
  injection hb' with e1 e2
  subst e1
  have hnil : es.toList = [] := by
   cases hes : es.toList with
   | nil => rfl
   | cons x l =>
    have hx : x ∈ es.toList := by rw [hes]; exact List.mem_cons_self
    obtain ⟨y, hy⟩ := F.reads x hx
    have q := rd_key hy
    rw [hno x hx] at q
    cases q
  rw [hnil] at hD
  obtain ⟨z, hz⟩ := h4
  have hzL : 0 ≤ z ∧ z < (L : Int) := by
   have q := h.1 z
   constructor
   ·by_cases h0 : z < 0
    ·have := q.2 (.inl h0); omega
    ·omega
   ·by_cases h0 : (L : Int) ≤ z
    ·have := q.2 (.inr h0); omega
    ·omega
  have q := h3 z (wf_loc hzL.1 hzL.2 hL)
  rw [hD] at q
  have q2 : (0 : Int) = a.f z := by
   simp [DataW.atKey] at q
   first | exact q | exact q.symm
  omega
theorem HistV.R.grown {L C : Nat} (hL : L ≤ 4096) {w w' : World} {h : HistV} (hr : h.R L w) (hC : StrM C w) (hg : w.grownBy w' (some C)) : h.R L w' :=
 ⟨hr.1, hr.2.1, (hr.2.2.1.grown dM hC hg).more' hg.size, fun m hm => (hr.2.2.2 m hm).grown hL hC hg⟩
theorem MemV.R.grown {C : Nat} {w w' : World} {m : MemV} (hL : m.hs.length ≤ 4096) (h : m.R w) (hC : StrM C w) (hg : w.grownBy w' (some C)) : m.R w' :=
 ⟨⟨h.1.1, h.1.2.1, (h.1.2.2.1.grown dM hC hg).more' hg.size, fun x hx => (h.1.2.2.2 x hx).grown hL hC hg⟩, ⟨h.2.1, h.2.2.1, (h.2.2.2.1.grown dM hC hg).more' hg.size, fun x hx => (h.2.2.2.2 x hx).grown hL hC hg⟩⟩
end Go.Proofs.YtnnmenmifphadaaGreatDoor
