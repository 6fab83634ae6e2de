/- ReviveAgain: a recovery that is interrupted by a crash at any step, with any part of its stores persisted, and then restarted, leaves the words of an uninterrupted recovery. -/
import Derived.Test.YtapjfhbonfehpaaGreatDoorCards
import Derived.Test.YtapjfhbonfehpaaGreatDoorTie
import Derived.Test.YtapjfhbonfehpaaGreatDoorV03
import Derived.Test.YtapjfhbonfehpaaGreatDoorV22
import Derived.Test.YtapjfhbonfehpaaGreatDoorV29
import Derived.Test.YtapjfhbonfehpaaGreatDoorV33
import Derived.Test.YtapjfhbonfehpaaGreatDoorV61
set_option linter.unusedSimpArgs false
set_option linter.unusedVariables false
set_option maxRecDepth 100000
set_option maxHeartbeats 40000000
namespace Go.Proofs.YtapjfhbonfehpaaGreatDoor.lawAgain
open Go.ChangeShapes Go.WideShapes Go.ChangeAt Go.RowKit
theorem own : ownKnob Tryz.prog.godebug = none := by kernel_rfl
theorem tV : (aY 3 8 2).Nodup ∧ (au 3 8 2).Nodup ∧ (bu 3 8 2).Nodup := by decide +kernel
theorem NB : (jP ((3 : Nat) : Int) 8 2).sig ≤ 900 := by decide +kernel
theorem NT : (jP ((3 : Nat) : Int) 8 2).phi ≤ 1000000 := by decide +kernel
theorem N3 {ws : List W3} (hl : ws.length = 448) (hok : ∀ x ∈ ws, x.ok) : Lay ((3 : Nat) : Int) 8 2 448 ws (dI 3 8 2 ws) := ⟨cX, ib, JP, tV.1, tV.2.1, tV.2.2, hl, hok, rfl⟩
/-- A negative cut. -/
theorem FV (A : Option Addr) (n cap : Nat) (w : World) : Calls Tryz.prog 8 #[.agg #[.int .i64 3, .int .i64 8, .int .i64 2], .slice A n cap, .int .i64 (-1)] w (cd (.tuple #[.slice none 0 0, .int .i64 3]) w) := by
 go_enter Tryz.func8, Tryz.ntmps8;go_wp2_with fail;exact bodyPost_ret (v := .tuple #[.slice none 0 0, .int .i64 3]) (by simp [results, Tryz.results8, go_sem]; (try go_simp)) rfl ⟨rfl, ae⟩
theorem N4 (m : bO) (z : Int) (w : World) (hs : ai w) (hm : m.In w w.heap.size) (hok : m.ok) (hz0 : 0 ≤ z) (hz1 : z ≤ 65535) : Calls Tryz.prog 3 #[m.val, .int .u16 z] w (cd (.bool true) w) := by
 have hp := hs.pos;obtain ⟨As, cs, sl, Ac, cc, ce, Ar, cr, re, Ao, co, ov, Aa, ca, ats⟩ := m;obtain ⟨m, Gb⟩ : ∃ m, m = bO.mk As cs sl Ac cc ce Ar cr re Ao co ov Aa ca ats := ⟨_, rfl⟩;rw [← Gb] at hm hok;have hmv : m.val = .agg #[.slice As sl.length cs, .slice Ac ce.length cc, .slice Ar re.length cr, .slice Ao ov.length co, .slice Aa ats.length ca] := by rw [Gb]; rfl
 rw [← Gb, hmv];have Hm := aa hm;have pd := aa hok;have PQ := aa hmv;obtain ⟨c, hc⟩ : ∃ c : Nat, z % 300 = (c : Int) := ⟨(z % 300).toNat, by omega⟩;have hc3 : c ≤ 65535 := by omega
 have hc0 : (0 : Int) ≤ (c : Int) := by omega
 clear hm hok hmv Gb;go_enter Tryz.func3, Tryz.ntmps3;go_wp2_with (first | (go_at_call 4; refine rB (pF _) ?_; intro w1 hb1 ar aA hs1; (try simp at hs1); have hz1 := zL w.heap.size w1));rw [← PQ.out];cases hf : m.fits with
 | false =>
  refine (Le m _ (hs.below ae) hf).mono ?_;rintro e w2 ⟨rfl, hb2⟩;obtain ⟨aH, aL⟩ := bE hb2;have hs2 := hb2.size;(try simp at hs2);go_wp2_with (first | (go_at_call 6; refine rB (AQ _ (hs.below ae)) ?_; intro w9 km abn abm Wh; (try simp at Wh)));go_ret;exact ⟨rfl, ae⟩
 | true =>
  refine (zO m _ (hs.below ae) hf ((Hm.out.below ae).more (by first | omega | (simp; omega))) pd.out).mono ?_;rintro e w2 ⟨G, rfl, hM, hG, hb2⟩;obtain ⟨ws, Iz⟩ : ∃ ws, ws = m.words := ⟨_, rfl⟩;rw [← Iz] at hM;have hl : ws.length = 448 := by rw [Iz]; exact m.len_words
  have Oj : ∀ x ∈ ws, x.ok := by rw [Iz]; exact bO.ok_words pd.out
  have l0 : w2.cell? ⟨w1.heap.size, 0, none⟩ = some (.int .i64 3) := cT hb2 (by go_simp) sM;have l1 : w2.cell? ⟨w1.heap.size, 1, none⟩ = some (.int .i64 8) := cT hb2 (by go_simp) sM;have l2 : w2.cell? ⟨w1.heap.size, 2, none⟩ = some (.int .i64 2) := cT hb2 (by go_simp) sM;have hs2 := hb2.size;(try simp at hs2);have hB2 : Below w.heap.size w w2 := ae;have hz2 := zL w1.heap.size w2;have HM := aa hM;obtain ⟨R, hR⟩ : ∃ R, R = dI 3 8 2 ws := ⟨_, rfl⟩;have hRl : R.length = 448 := by rw [hR, fP]; exact hl
  have hwd := fun W hs' yv => yZ 3 8 2 G 448 448 ws W cX hs' yv hl oM (Nat.le_refl _) Oj ib;have hL := N3 hl Oj;rw [← hR] at hwd hL;have hag := fun (W : World) (hs' : ai W) (yv : Mem G ws W) => xH (t := 3) (C := 8) (B := 2) (N := 448) (cut := c) (cap := 448) (A := some ⟨G, 0, none⟩) hL dM NB NT hc3 hs' (by have h := yv.rd; rwa [hl] at h);have WJ := aa hwd;have Hag := aa hag;have HRl := aa hRl;clear hb2 hM hG hs2 ar aA hb1 Iz hl Oj Hm pd PQ hwd hL hag hRl hR;go_upto_region 7 with (first
   | (go_at_call 7; refine (WJ.out _ (hs.below ae) (HM.out.grow ae)).mono ?_; rintro e w3 ⟨g, cap', rfl, Jf, hg, hcp, hcm, hb3⟩; have HMg := aa Jf; clear Jf hg hcp hcm; obtain ⟨cN, cH, hs3⟩ := bC hb3; (try simp at hs3); have hz3 := zL w1.heap.size w3)
   | (go_at_call 8; refine (Hag.out _ (hs.below ae) (HM.out.grow ae)).mono ?_; rintro e w4 ⟨v, rfl, hown, hb4⟩; have dR := aa hown; clear hown; obtain ⟨eB, fZ, hs4⟩ := bC hb4; (try simp at hs4); have iZ := zL w1.heap.size w4))
  obtain ⟨g4, af1, rfl, LJ, hg4, IE⟩ := bJ dR.out dM;have abj : g4 < w4.heap.size := by
   obtain ⟨b, off, e, hB, _⟩ := IE.2 dM;injection e with e
   injection e with e _
   subst e;exact hB
  have vd := aa (tY dR.out abj);have acG := aa (HMg.out.grow hb4);have hB4 : Below w.heap.size w w4 := ae;have jr := aa hB4;have k0 := (hb4.cell (p := ⟨w1.heap.size, 0, none⟩) hz3).trans ((hb3.cell (p := ⟨w1.heap.size, 0, none⟩) hz2).trans l0);have k1 := (hb4.cell (p := ⟨w1.heap.size, 1, none⟩) hz3).trans ((hb3.cell (p := ⟨w1.heap.size, 1, none⟩) hz2).trans l1);have k2 := (hb4.cell (p := ⟨w1.heap.size, 2, none⟩) hz3).trans ((hb3.cell (p := ⟨w1.heap.size, 2, none⟩) hz2).trans l2);clear IE cN cH hb3 hs3 eB fZ hb4 hs4 l0 l1 l2 dR hB4 hB2 HM HMg LJ hg4 WJ Hag hz2 hz3;have hs' := jr.out;go_wp2_with (first
   | (go_at_call 8; refine rB (FV _ _ _ _) ?_; intro w5 hb5 bX cw hs5; (try simp at hs5))
   | (go_at_call 6; refine rB (AQ _ (hs.below ae)) ?_; intro w9 km abn abm Wh; (try simp at Wh))
   | (go_at_call 9; refine rB (C0 g4 g 448 _ _ R _ (vd.out.grow ae) (acG.out.grow ae) HRl.out oM) ?_; intro w6 hb6 iR iQ hs6; (try simp at hs6)))
  go_ret;exact ⟨rfl, ae⟩
theorem GG {W : World} (h : laidMetH Tryz.prog Rows.reviveAgainRow.laid W) : ai W := by
 have ht : Lib.TabIs Tryz.prog W "simulcast/layout.sizes" .i64 [8, 8, 8, 1, 104, 0, 32] := Lib.tabIs_of_head (g := 0) (rest := []) kR kR Tryz.underlying138 Tryz.underlying3 kR kR h;intro k u hu;have hk := (List.getElem?_eq_some_iff.1 hu).1;have e : [8, 8, 8, 1, 104, 0, 32][k]'hk = u := (List.getElem?_eq_some_iff.1 hu).2;rw [← e];exact (ht.cell (show Tryz.prog.globalNamed "simulcast/layout.sizes" = some 0 by kernel_rfl) k hk).trans (by rw [List.getD_eq_getElem?_getD, List.getElem?_eq_getElem hk]; rfl)
theorem bounds_u16 {z : Int} (h : (Lit.int .u16 z).wf = true) : 0 ≤ z ∧ z ≤ 65535 := by
 simp [Lit.wf, IntKind.min, IntKind.max, IntKind.signed, IntKind.bits] at h;exact h
theorem walk : A9 Tryz.prog 3 #[28, 29] Rows.reviveAgainRow.laid := by
 intro H enc W base args ds p hval hA hlt hL;obtain ⟨v0, v1, d0, d1, p0, p1, rfl, rfl, rfl, h0, h1⟩ := trodAll_two hA;obtain ⟨m, rfl, hm, hok⟩ := NI (hval 0 28 v0 rfl rfl) h0;obtain ⟨z, rfl, rfl, rfl, wi⟩ := open_int Tryz.underlying29 (hval 1 29 v1 rfl rfl) h1;obtain ⟨i0, i1⟩ := bounds_u16 wi;exact N4 m z W (GG hL) hm hok i0 i1
noncomputable def laidWorld (os : Os) : World :=
 { World.holding Tryz.prog os ⟨#[], #[], []⟩ with heap := (World.holding Tryz.prog os ⟨#[], #[], []⟩).heap.modify 0 fun
  | .cells _ t frozen => .cells #[.int .i64 8, .int .i64 8, .int .i64 8, .int .i64 1, .int .i64 104, .int .i64 0, .int .i64 32] t frozen
  | o => o }
theorem Ie (os : Os) : laidMet Tryz.prog Rows.reviveAgainRow.laid ((laidWorld os).forCall (fun _ _ => 0) ⟨#[], #[.agg #[.slice none 0 0, .slice none 0 0, .slice none 0 0, .slice none 0 0, .slice none 0 0], .int .u16 0], []⟩).memory :=
 laidMet_of_run' 8 kR kR
theorem reads (os : Os) {H : Type} (enc : TypeId × Value → H) : ∃ places, DataW.whole enc Tryz.prog ((laidWorld os).forCall (fun _ _ => 0) ⟨#[], #[.agg #[.slice none 0 0, .slice none 0 0, .slice none 0 0, .slice none 0 0, .slice none 0 0], .int .u16 0], []⟩).memory Tryz.f3.params.toList Rows.reviveAgainSpec.vars false (#[.agg #[.slice none 0 0, .slice none 0 0, .slice none 0 0, .slice none 0 0, .slice none 0 0], .int .u16 0] : Array Value).toList 8 = some ([.agg [.nil, .nil, .nil, .nil, .nil], .lit (.int .u16 0)], [], places) :=
 ⟨[], by kernel_rfl⟩
theorem lifted (os : Os) (started : os.Started) (H : Type) (enc : TypeId × Value → H) (F : Stop.Interp) :
  ReturnsInHanded {} Tryz.checked os 3 .any ((OpenSpec.ofChange Rows.reviveAgainSpec).preRow enc Tryz.prog Tryz.f3 Rows.reviveAgainRow.domain false Rows.reviveAgainRow.laid) (((OpenSpec.ofChange Rows.reviveAgainSpec).at F).post enc Tryz.prog Tryz.f3 false true false false) := by
 obtain ⟨places, hx⟩ := reads os enc;refine returnsInHanded_of_row (C := Tryz.checked) (s := OpenSpec.ofChange Rows.reviveAgainSpec) own started kR Tryz.func3
  (witness_row_at (enc := enc) (C := Tryz.checked) false (laidWorld os) #[.agg #[.slice none 0 0, .slice none 0 0, .slice none 0 0, .slice none 0 0, .slice none 0 0], .int .u16 0] rfl kR kR kR
   (OpenSpec.preRow_of_cond 8 hx kR (fun k hk => by cases hk) kR (Ie os))) ?_
 intro W base args ds gs before hval hW _ _ _ hL _ _;exact yb (s := Rows.reviveAgainSpec) kR kR Tryz.underlying4 kR ⟨rfl, fun H ds h => by match ds, h with | [d1, d2], _ => exact ⟨rfl, rfl, rfl⟩⟩ (by rw [Tryz.params3]; exact walk) W base args ds gs before hval hW hL
theorem over : Rows.reviveAgainRow.holds Tryz.pinned (OpenSpec.ofChange Rows.reviveAgainSpec) :=
 OpenClaim.holds_of_cond 3 Tryz.f3 rfl rfl rfl rfl rfl rfl rfl ⟨rfl, rfl, rfl, rfl, rfl⟩ rfl rfl rfl rfl rfl kR Tryz.func3 kR
  (of_decide_eq_true kR) (by unfold Func.isWrapper; first | (rw [if_pos (by decide +kernel)]; kernel_rfl) | (rw [if_neg (by decide +kernel)]; exact ⟨rfl, rfl⟩))
  (fun os started H enc _ F => by rw [OpenClaim.pre_eq_preRow]; exact lifted os started H enc F)
theorem G3 (f : FuncId) (fn : Func) (hf : Tryz.pinned.checked.prog.funcNamed "simulcast/simulcastlaw56.ReviveAgain" = some f) (hfn : Tryz.pinned.checked.prog.funcs[f]? = some fn) :
  true = Tryz.pinned.checked.prog.looks [] ∧ ∀ (j : Nat) t, fn.params[j]? = some t → Tryz.pinned.checked.prog.wantsStandIn t = false := by
 obtain rfl : f = 3 := Option.some.inj ((show Tryz.prog.funcNamed "simulcast/simulcastlaw56.ReviveAgain" = some 3 by kernel_rfl).symm.trans hf) |>.symm
 obtain rfl : fn = Tryz.f3 := (Option.some.inj (Tryz.func3.symm.trans hfn)).symm;refine ⟨by kernel_rfl, fun j t ht => ?_⟩;rw [Tryz.params3] at ht;have hm := Array.mem_of_getElem? ht;have hall : ∀ t ∈ (#[28, 29] : Array TypeId), Tryz.prog.wantsStandIn t = false := by
  intro t h;simp only [List.mem_toArray, List.mem_cons, List.not_mem_nil, or_false] at h;rcases h with rfl | rfl
  all_goals kernel_rfl
 exact hall t hm
theorem card : Rows.ReviveAgainCardSaid :=
 Claim7.holds_tied_plain_at .later [] _ _ _ _ over (fun _ h => by cases h) kR (fun _ h => by cases h) reviveAgain_row_tie rfl ⟨rfl, rfl⟩ kR rfl G3 kR
theorem proved : Rows.ReviveAgainCardSaid := card
end Go.Proofs.YtapjfhbonfehpaaGreatDoor.lawAgain
