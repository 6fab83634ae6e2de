/- Package view: At, With, Join. -/
import Derived.Deep.RegionHeld3
import Derived.Test.YtapjfhbonfehpaaGreatDoorV19
set_option linter.unusedSimpArgs false
set_option linter.unusedVariables false
set_option maxRecDepth 100000
set_option maxHeartbeats 40000000
namespace Go.Proofs.YtapjfhbonfehpaaGreatDoor
open Go.RowKit Go.Maps
theorem nX {L : Nat} {z : Int} (h0 : 0 ≤ z) (h1 : z < (L : Int)) (hL : L ≤ 4096) : (Lit.int .i64 z).wf = true := WalkArith.wf_i64 oM
theorem KI (L : Nat) (hL : L ≤ 4096) (a : eG) (z : Int) (w : World) (h : a.R L w) (h0 : 0 ≤ z) (h1 : z < (L : Int)) :
  Calls Tryz.prog 125 #[.agg #[.map a.v], .int .i64 z] w (cd (.int .i64 (a.f z)) w) := by
 have hl := fun o => zR (h.mapF.alloc o) Tryz.underlying52 Tryz.underlying169 (nX h0 h1 hL);go_enter Tryz.func125, Tryz.ntmps125;go_wp2_with fail;go_ret;exact ⟨rfl, ae⟩
def aJ (f : Int → Int) (z k : Int) : Int → Int := if k ≤ f z then f else upd f z k
theorem Ee {L : Nat} {f : Int → Int} {z k : Int} (hf : ∀ z, 0 ≤ f z ∧ (z < 0 ∨ (L : Int) ≤ z → f z = 0)) (h0 : 0 ≤ z) (h1 : z < (L : Int)) : ∀ y, 0 ≤ aJ f z k y ∧ (y < 0 ∨ (L : Int) ≤ y → aJ f z k y = 0) := by
 intro y;unfold aJ upd;have h2 := hf y;have h3 := (hf z).1;split
 ·exact h2
 ·simp only;split
  ·exact ⟨by omega, fun h => by omega⟩
  ·exact h2
theorem mR (L : Nat) (hL : L ≤ 4096) (a : eG) (z k : Int) (w : World) (h : a.R L w) (h0 : 0 ≤ z) (h1 : z < (L : Int)) (wk : (Lit.int .i64 k).wf = true) :
  Calls Tryz.prog 119 #[.agg #[.map a.v], .int .i64 z, .int .i64 k] w fun e w' => ∃ v', e = .returned (.agg #[.map v']) ∧ eG.R L w' ⟨v', aJ a.f z k⟩ ∧ Below w.heap.size w w' := by
 obtain ⟨v, f⟩ := a;have hl := fun o o2 => zR ((h.mapF.alloc o).alloc o2) Tryz.underlying52 Tryz.underlying169 (nX h0 h1 hL);simp only at hl;have hq := fun (w : World) (r : Option Nat) => run_eql_map_nil (P := Tryz.prog) w _ _ _ r Tryz.underlying169;have Gb := @run_makeMap Tryz.prog;have hz0 : ¬ (z < 0) := by omega
 have hz1 : ¬ (z ≥ 4096) := by omega
 have hz2 : ¬ (4096 ≤ z) := by omega
 by_cases hk : k ≤ f z
 ·have hwf : Hid (aJ f z k = f) := aa (if_pos hk);go_enter Tryz.func119, Tryz.ntmps119;go_wp2_with fail;refine bodyPost_ret (v := .agg #[.map v]) (by simp [results, Tryz.results119, go_sem]) rfl ⟨_, rfl, by rw [hwf.out]; exact h.below ae, ae⟩
 ·have hwf : Hid (aJ f z k = upd f z k) := aa (if_neg hk);have U9 := aa (Ee (k := k) h.1 h0 h1);have hk1 : 1 ≤ k := by
   have q : 0 ≤ f z := (h.1 z).1;omega
  have Hzp : Hid (∃ y, 0 < aJ f z k y) := aa ⟨z, by rw [hwf.out]; unfold upd; simp only [if_true]; omega⟩;obtain ⟨-, hR⟩ := h;simp only at hR;rcases hR with ⟨rfl, hf⟩ | ⟨b, D, rfl, hown, hi, hf, hpz⟩
  ·have Hf := aa hf;have Qk : Hid (w.heap.size + 1 + 1 = ((w.alloc (.cells #[.map none] 171)).alloc (.cells #[.map none] 171)).heap.size) := aa sM;clear hf;go_enter Tryz.func119, Tryz.ntmps119;go_wp2_with fail;refine (FM _).mono ?_;rintro e w1 ⟨rfl, hw1⟩;have lF : w.heap.size + 1 < w1.heap.size := by rw [hw1]; simp
   have iZ := zL w.heap.size w1;have hB1 : Below w.heap.size w w1 := by rw [hw1]; exact ae
   have c1 := cR hw1 (w.heap.size + 1) 0 (.map none);have d1 : w1.frozen? ⟨w.heap.size + 1, 0, none⟩ = false := by rw [hw1]; go_simp
   clear hw1 hl;have kz : (w1.alloc (.map #[] 0)).ownsMap Tryz.prog 52 (plainElem (H := Unit) Tryz.prog 3) w1.heap.size L (.map []) := (World.ownsMap_made _ _ _ _).mono (Nat.zero_le _);go_wp2_with (first | (at_mapUpdate; refine wpList_mapUpdate_own _ rfl _ _ _ 169 rfl 52 3 gB Tryz.underlying169 _ (w1.heap.size) L (.map []) rfl kz (by unfold maxLen; omega) _ _ _ rfl rfl (keyOf_int_mk Tryz.underlying52 (nX h0 h1 hL)) _ [] (plainElem_int Tryz.underlying3 wk) ?_; intro w2 hown2 hg2; obtain ⟨aH, aL⟩ := bz hg2 (b := w.heap.size + 1) (by first | omega | (simp; omega)) (by intro e; injection e with e; omega)));have e6 := cE w2 (w.heap.size + 1) 0 (.map none);have hB2 : Below w.heap.size w w2 := Below.grown (w := w1.alloc (.map #[] 0)) ae hg2 (by simp; omega) (fun j hj => by cases hj; omega);refine bodyPost_ret (v := .agg #[.map (some w1.heap.size)]) (by simp [results, Tryz.results119, go_sem, e6]) rfl ?_;have hk2 : eU ((DataW.map [] : DataW Unit).put (.int .i64 z) (.lit (.int .i64 k))) L := (eU.empty L).put h0 h1 _ (jT hk1);refine ⟨_, rfl, ⟨U9.out, .inr ⟨_, _, rfl, (sw hown2 gB hk2).setCell ?_ _, hk2, ?_, Hzp.out⟩⟩, ae⟩
   ·first | omega | (simp; done) | (simp; omega)
   ·show ∀ x, _ → _ = DataW.lit (.int .i64 (aJ f z k x));rw [hwf.out];exact kt (f := f) isMap_empty (fun x wx => by rw [Hf.out x]; rfl) z k (nX h0 h1 hL)
  ·have Hf := aa hf;clear hf;go_enter Tryz.func119, Tryz.ntmps119;go_wp2_with fail;refine (xo _ (hown.kept (aG ae none) sM)).mono ?_;rintro e w1 ⟨rfl, hown1, hs0, hb1⟩;obtain ⟨ar, aA⟩ := bE hb1;have hs1 := hb1.size;(try simp at hs1);(try simp at hs0);have iZ := zL w.heap.size w1;have lF := zL (w.heap.size + 1) w1;have hB1 : Below w.heap.size w w1 := ae;have hsz2 : ((w.alloc (.cells #[.map (some b)] 171)).alloc (.cells #[.map none] 171)).heap.size = w.heap.size + 1 + 1 := by simp
   rw [hsz2] at hown1;clear hl;have hbne : w.heap.size + 1 < w.heap.size + 1 + 1 := by omega
   go_wp2_with (first | (at_mapUpdate; refine wpList_mapUpdate_own _ rfl _ _ _ 169 rfl 52 3 gB Tryz.underlying169 _ (w.heap.size + 1 + 1) L D rfl hown1 (by unfold maxLen; omega) _ _ _ rfl rfl (keyOf_int_mk Tryz.underlying52 (nX h0 h1 hL)) _ [] (plainElem_int Tryz.underlying3 wk) ?_; intro w2 hown2 hg2; obtain ⟨aH, aL⟩ := bz hg2 (b := w.heap.size + 1) (by first | omega | (simp; omega)) (by intro e; injection e with e; omega)));have e6 := cE w2 (w.heap.size + 1) 0 (.map none);have hB2 : Below w.heap.size w w2 := Below.grown (w := w1) ae hg2 oM (fun j hj => by cases hj; omega);refine bodyPost_ret (v := .agg #[.map (some (w.heap.size + 1 + 1))]) (by simp [results, Tryz.results119, go_sem, e6]) rfl ?_;have hk2 := hi.put h0 h1 (.lit (.int .i64 k)) (jT hk1);refine ⟨_, rfl, ⟨U9.out, .inr ⟨_, _, rfl, (sw hown2 gB hk2).setCell ?_ _, hk2, ?_, Hzp.out⟩⟩, ae⟩
   ·first | omega | (simp; done) | (simp; omega)
   ·show ∀ x, _ → _ = DataW.lit (.int .i64 (aJ f z k x));rw [hwf.out];exact kt hi.isMap Hf.out z k (nX h0 h1 hL)
def ek (f g : Int → Int) (z : Int) : Int := max (f z) (g z)
theorem EU {L : Nat} {f g : Int → Int} (hf : ∀ z, 0 ≤ f z ∧ (z < 0 ∨ (L : Int) ≤ z → f z = 0)) (hg : ∀ z, 0 ≤ g z ∧ (z < 0 ∨ (L : Int) ≤ z → g z = 0)) : ∀ y, 0 ≤ ek f g y ∧ (y < 0 ∨ (L : Int) ≤ y → ek f g y = 0) := by
 intro y;have h1 := hf y;have h2 := hg y;unfold ek;exact ⟨by omega, fun h => by omega⟩
theorem ug {f g : Int → Int} (hf : ∀ z, 0 ≤ f z) (hg : ∀ z, g z = 0) : ek f g = f := by
 funext z;unfold ek;rw [hg z];have := hf z;omega
def JInv (L ba B : Nat) (Da : DataW Unit) (G : (Lit → Bool) → Int → Int) (w1 wr : World) : Prop := ∃ (left : Lit → Bool) (cnt : Nat) (Do : DataW Unit), wr.ranges Tryz.prog 52 (plainElem Tryz.prog 3) ba w1.heap.size L Da left cnt ∧ wr.ownsMap Tryz.prog 52 (plainElem Tryz.prog 3) B L Do ∧ eU Do L ∧ (∀ z, (Lit.int .i64 z).wf = true → Do.atKey (.int .i64 z) (.lit (.int .i64 0)) = .lit (.int .i64 (G left z))) ∧ (∀ kl, left kl = true → Maps.has Da kl = true) ∧ Below B w1 wr
theorem xv {L : Nat} (hL : L ≤ 4096) {D : DataW Unit} {f : Int → Int} (hk : eU D L) (h0 : Maps.size D = 0) (hp : ∀ z, 0 ≤ f z ∧ (z < 0 ∨ (L : Int) ≤ z → f z = 0)) (hf : ∀ z, (Lit.int .i64 z).wf = true → D.atKey (.int .i64 z) (.lit (.int .i64 0)) = .lit (.int .i64 (f z))) : ∀ z, f z = 0 := by
 obtain ⟨es, rfl, _⟩ := hk;obtain rfl : es = [] := List.eq_nil_of_length_eq_zero h0;intro z;by_cases h : 0 ≤ z ∧ z < (L : Int)
 ·exact (iL (hf z (nX h.1 h.2 hL))).symm
 ·exact (hp z).2 oM
theorem Eg (L : Nat) (hL : L ≤ 4096) (a b : eG) (w : World) (ha : a.R L w) (hb : b.R L w) :
  Calls Tryz.prog 129 #[.agg #[.map a.v], .agg #[.map b.v]] w fun e w' => ∃ v', e = .returned (.agg #[.map v']) ∧ eG.R L w' ⟨v', ek a.f b.f⟩ ∧ Below w.heap.size w w' := by
 obtain ⟨av, f⟩ := a;obtain ⟨bv, g⟩ := b;have hp := EU ha.1 hb.1;have Hp := aa hp;have Ha := aa ha;obtain ⟨hb0, hbR⟩ := hb;simp only at hbR hb0 hp;rcases hbR with ⟨rfl, hg⟩ | ⟨b, D, rfl, hown, hi, hg, hpz⟩
 ·have hj : Hid (ek f g = f) := aa (ug (fun z => (Ha.out.1 z).1) hg);clear hg hp ha;go_enter Tryz.func129, Tryz.ntmps129;go_wp2_with fail;refine bodyPost_ret (v := .agg #[.map av]) (by simp [results, Tryz.results129, go_sem]) rfl ⟨_, rfl, by rw [hj.out]; exact Ha.out.below ae, ae⟩
 ·by_cases hz : Maps.size D = 0
  ·have hj : Hid (ek f g = f) := aa (ug (fun z => (Ha.out.1 z).1) (xv hL hi hz hb0 hg));clear hg hp ha;go_enter Tryz.func129, Tryz.ntmps129;go_wp2_with (first | (at_len; refine wpList_len_own _ rfl _ 169 rfl 52 3 Tryz.underlying169 _ b L D rfl (hown.kept (aG ae none) sM) ?_));refine bodyPost_ret (v := .agg #[.map av]) (by simp [results, Tryz.results129, go_sem]) rfl ⟨_, rfl, by rw [hj.out]; exact Ha.out.below ae, ae⟩
  ·have hz2 : ¬ ((Maps.size D : Int) = 0) := by omega
   have hz3 : ((Maps.size D : Int) == 0) = false := by simpa using hz
   have Hg := aa hg;have Hpz := aa hpz;have Hjz : Hid (∃ y, 0 < ek f g y) := aa (by obtain ⟨y, hy⟩ := hpz; exact ⟨y, by unfold ek; omega⟩);clear hg hp ha hpz;go_enter Tryz.func129, Tryz.ntmps129;go_wp2_with (first | (at_len; refine wpList_len_own _ rfl _ 169 rfl 52 3 Tryz.underlying169 _ b L D rfl (hown.kept (aG ae none) sM) ?_));refine (xo _ (hown.kept (aG ae none) sM)).mono ?_;rintro e w1 ⟨rfl, hown1, hs0, hb1⟩;obtain ⟨ar, aA⟩ := bE hb1;(try simp at hs0);have yg : (((w.alloc (.cells #[.map av] 171)).alloc (.cells #[.map (some b)] 171)).alloc (.cells #[.map none] 171)).heap.size = w.heap.size + 1 + 1 + 1 := by simp
   rw [yg] at hown1;have iZ := zL w.heap.size w1;have lF := zL (w.heap.size + 1) w1;have zX := zL (w.heap.size + 1 + 1) w1;have hB1 : Below w.heap.size w w1 := ae;have e4 := cE w1 (w.heap.size + 1 + 1) 0 (.map none);have f4 : w1.frozen? ⟨w.heap.size + 1 + 1, 0, none⟩ = false := by go_simp
   have Ha1 := aa (Ha.out.below hB1);obtain ⟨ha0, vN⟩ := Ha.out;simp only at vN ha0;rcases vN with ⟨rfl, hf⟩ | ⟨ba, Da, rfl, IK, -, -, -⟩
   ·have hj : Hid (ek f g = g) := aa (by
     funext z;unfold ek;rw [hf z];have := (hb0 z).1;omega)
    have hrn := fun W => run_range_nilMap (P := Tryz.prog) W _ _ _ Tryz.underlying169;have hnn := @run_next_nilMap Tryz.prog;clear hf;go_wp2_with fail;refine wp_loop_rounds 1 ?_;rw [rounds_succ];go_wp2_with fail;have e5 : ∀ o, ((w1.setCell ⟨w.heap.size + 1 + 1, 0, none⟩ (.map (some (w.heap.size + 1 + 1 + 1)))).alloc o).cell? ⟨w.heap.size + 1 + 1, 0, none⟩ = some (.map (some (w.heap.size + 1 + 1 + 1))) := fun o => (by go_simp);refine bodyPost_ret (v := .agg #[.map (some (w.heap.size + 1 + 1 + 1))]) (by simp [results, Tryz.results129, go_sem, e5]) rfl ⟨_, rfl, ?_, ae⟩;rw [hj.out];refine ⟨hb0, .inr ⟨_, D, rfl, ?_, hi, Hg.out, Hpz.out⟩⟩;exact (hown1.setCell (by first | omega | (simp; done) | (simp; omega)) _).alloc _
   ·have hba := IK.lt;clear IK;obtain ⟨-, vN⟩ := Ha1.out;simp only at vN;obtain ⟨hx, -⟩ | ⟨ba', Da, hx, S4, hiA, hfA, -⟩ := vN
    ·cases hx
    injection hx with hx
    subst hx;have HfA := aa hfA;clear hfA;obtain ⟨G, hG⟩ : ∃ G : (Lit → Bool) → Int → Int, G = fun left z => if left (.int .i64 z) = true then g z else ek f g z := ⟨_, rfl⟩;have HG := aa hG;have Jg : ∀ z, (Lit.int .i64 z).wf = true → D.atKey (.int .i64 z) (.lit (.int .i64 0)) = .lit (.int .i64 (G (Maps.has Da) z)) := by
     intro z wz;rw [Hg.out z wz, hG];simp only;split
     ·rfl
     ·rename_i hn;have h0 : f z = 0 := (iL ((atKey_of_not_has (by simpa using hn) _).symm.trans (HfA.out z wz))).symm;have h1 := (hb0 z).1;unfold ek;rw [h0, show max (0 : Int) (g z) = g z by omega]
    have VI := aa Jg;clear Jg hG;go_wp2_with (first
     | (at_range; refine wpList_range_own _ rfl _ 169 rfl 52 3 gB Tryz.underlying169 _ ba L Da rfl S4 ?_; intro w7 SU oI hs7))
    go_frame
    have Ng : Below (w.heap.size + 1 + 1 + 1) w1 w7 := (Below.refl _ _).grown oI oM (fun j hj => by cases hj);have kB := hown1.kept oI sM;have ac3 := aa SU;clear SU oI hown1
    go_loopw [6] (fun _ wr => JInv L ba (w.heap.size + 1 + 1 + 1) Da G w1 wr) (fun _ wr => wr.rangeLeft ba w1.heap.size)
    case atStart => exact ⟨_, _, D, ac3.out, kB, hi, VI.out, fun _ h => h, Ng⟩
    case round =>
     obtain ⟨left, cnt, Do, hrg, MM, Tn, hfO, hsub, hB⟩ := hrel;have Vo := aa hfO;have FY := aa hsub;have WM := aa hrg;have hsz := hB.size;have e4r := cT hB e4 (Nat.lt_succ_self _);have f4r : wr.frozen? ⟨w.heap.size + 1 + 1, 0, none⟩ = false := ((CV hB).2 _ _ (Nat.lt_succ_self _)).trans f4;clear hfO hsub;go_wp2_with (first
      | (at_next; refine wpList_next_ranges_ii _ rfl _ rfl 52 3 .i64 .i64 gB Tryz.underlying52 Tryz.underlying3 ba w1.heap.size L _ _ _ rfl hrg ?_ ?_))
     ·intro _ hl0;have Hl0 := aa hl0;clear hl0;go_wp2_with fail;refine bodyPost_ret (v := .agg #[.map (some (w.heap.size + 1 + 1 + 1))]) (by simp [results, Tryz.results129, go_sem, e4r]) rfl ⟨_, rfl, ⟨Hp.out, .inr ⟨_, Do, rfl, MM.setCell ?_ _, Tn, ?_, Hjz.out⟩⟩, ?_⟩
      ·first | omega | (simp; done) | (simp; omega)
      ·intro z wz;rw [Vo.out z wz, HG.out];simp only [Hl0.out, Bool.false_eq_true, if_false]
      ·have hBw : Below w.heap.size w wr := hB1.trans (hB.mono oM);exact ae
     ·intro x c w8 JC hwx hwc hlx hat ID LA Gc Wi hen;obtain ⟨x', hxe, hx0, hx1⟩ := hiA.has (FY.out _ hlx);injection hxe with _ hxe
      subst hxe;have hc : c = f x := iL ((hat (.lit (.int .i64 0))).symm.trans (HfA.out x hwx));subst hc;have abk : 1 ≤ f x := hiA.pos (FY.out _ hlx) (HfA.out x hwx);have hGx : Hid (G left x = g x) := aa (by rw [HG.out]; exact if_pos hlx);have hgx := (hb0 x).1;have LZ : Below (w.heap.size + 1 + 1 + 1) w1 w8 := hB.grown Gc oM (fun j hj => by cases hj; omega);have DD := MM.kept Gc (by intro e; injection e with e; omega);have hkx := keyOf_int_mk (P := Tryz.prog) Tryz.underlying52 hwx;have hnew : Hid (∀ z, upd (G left) x (ek f g x) z = G (fun k => left k && !k.sameKey (.int .i64 x)) z) := aa (by
       intro z;rw [HG.out];unfold upd;by_cases hzx : z = x
       ·subst hzx;simp [Lit.sameKey]
       ·have hs : (Lit.int .i64 z).sameKey (.int .i64 x) = false := (by simp [Lit.sameKey, hzx]);simp [hzx, hs])
      have Nr : Hid (∀ kl, (left kl && !kl.sameKey (.int .i64 x)) = true → Maps.has Da kl = true) := aa (fun kl hkl => FY.out kl (by simp only [Bool.and_eq_true] at hkl; exact hkl.1));have F0 := aa ID;have Vi := aa LA;have hbne : ba ≠ w.heap.size + 1 + 1 + 1 := (by omega);clear hat hlx ID LA hrg;by_cases hmx : g x < f x
      ·have hjx : Hid (ek f g x = f x) := aa (by unfold ek; omega);go_wp2_with (first
        | (at_lookup; refine wpList_lookup_own_int _ rfl _ _ 169 rfl 52 3 .i64 gB Tryz.underlying169 Tryz.underlying3 (pk _) (w.heap.size + 1 + 1 + 1) L Do rfl DD _ _ rfl hkx ?_; intro c2 OV Sy; obtain rfl : c2 = g x := (iL (OV.symm.trans (Vo.out x hwx))).trans hGx.out)
        | (at_mapUpdate; refine wpList_mapUpdate_own _ rfl _ _ _ 169 rfl 52 3 gB Tryz.underlying169 _ (w.heap.size + 1 + 1 + 1) L Do rfl DD (by unfold maxLen; omega) _ _ _ rfl rfl hkx _ [] (plainElem_int Tryz.underlying3 hwc) ?_; intro w9 wY yr))
       have Tp := Tn.put hx0 hx1 (.lit (.int .i64 (f x))) (jT abk);have Nf : Below (w.heap.size + 1 + 1 + 1) w1 w9 := LZ.grown yr oM (fun j hj => by cases hj; omega);exact ⟨⟨_, JC, _, F0.out.kept yr (by intro e; injection e with e; omega) (by intro e; injection e with e; omega), sw wY gB Tp, Tp, fun z wz => by rw [← hnew.out z, hjx.out]; exact kt Tn.isMap Vo.out x (f x) hwx z wz, Nr.out, Nf⟩, by rw [(F0.out.kept yr (by intro e; injection e with e; omega) (by intro e; injection e with e; omega)).left_eq, WM.out.left_eq]; exact Vi.out⟩
      ·have hjx : Hid (ek f g x = g x) := aa (by unfold ek; omega);go_wp2_with (first
        | (at_lookup; refine wpList_lookup_own_int _ rfl _ _ 169 rfl 52 3 .i64 gB Tryz.underlying169 Tryz.underlying3 (pk _) (w.heap.size + 1 + 1 + 1) L Do rfl DD _ _ rfl hkx ?_; intro c2 OV Sy; obtain rfl : c2 = g x := (iL (OV.symm.trans (Vo.out x hwx))).trans hGx.out)
        | (at_mapUpdate; refine wpList_mapUpdate_own _ rfl _ _ _ 169 rfl 52 3 gB Tryz.underlying169 _ (w.heap.size + 1 + 1 + 1) L Do rfl DD (by unfold maxLen; omega) _ _ _ rfl rfl hkx _ [] (plainElem_int Tryz.underlying3 Sy) ?_; intro w9 wY yr))
       have Tp := Tn.put hx0 hx1 (.lit (.int .i64 (g x))) (jT oM);have Nf : Below (w.heap.size + 1 + 1 + 1) w1 w9 := LZ.grown yr oM (fun j hj => by cases hj; omega);exact ⟨⟨_, JC, _, F0.out.kept yr (by intro e; injection e with e; omega) (by intro e; injection e with e; omega), sw wY gB Tp, Tp, fun z wz => by rw [← hnew.out z, hjx.out]; exact kt Tn.isMap Vo.out x (g x) hwx z wz, Nr.out, Nf⟩, by rw [(F0.out.kept yr (by intro e; injection e with e; omega) (by intro e; injection e with e; omega)).left_eq, WM.out.left_eq]; exact Vi.out⟩
end Go.Proofs.YtapjfhbonfehpaaGreatDoor
