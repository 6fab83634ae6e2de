/- Package explore: after. -/
import Derived.Test.YtnnmenmifphadaaGreatDoorU41
set_option linter.unusedSimpArgs false
set_option linter.unusedVariables false
set_option maxRecDepth 100000
set_option maxHeartbeats 40000000
namespace Go.Proofs.YtnnmenmifphadaaGreatDoor
open Go.RowKit Go.Maps Go.Sort
theorem ex_after (V : WorldV) (t : Nat) (ch : Int) (w : World) (E : WorldV → Prop) (hR : V.R w)
  (hst : ∀ W, Below w.heap.size w W → V.R W → Calls Tryz.prog 13 #[(woV V), .agg #[.int .i64 0, .int .i64 ((t : Int) + 1), .int .i64 ch]] W fun e w' => ∃ V2 : WorldV, e = .returned (.tuple #[(woV V2), .bool true]) ∧ E V2 ∧ V2.R w' ∧ (∀ C, C < W.heap.size → V.off C → V2.off C) ∧ Below W.heap.size W w') :
  Calls Tryz.prog 59 #[(woV V), .agg #[.int .i64 ((t : Int) + 1), .int .i64 ch]] w fun e w' => ∃ V2 : WorldV, e = .returned (woV V2) ∧ E V2 ∧ V2.R w' ∧ (∀ C, C < w.heap.size → V.off C → V2.off C) ∧ Below w.heap.size w w' := by
 have Hst := hide hst
 have HR := hide hR
 clear hst hR
 go_enter Tryz.func59, Tryz.ntmps59
 go_upto_region 2 with (first
  | (go_at_call 13; refine (Hst.out _ (ab0) (HR.out.below ab0)).mono ?_; rintro e w1 ⟨V2, rfl, hE, hR2, hoff, hb1⟩; have hb := hb1; have hs1 := hb1.size; (try simp at hs1); have HR2 := hide hR2; have Hoff := hide hoff; have HE := hide hE; clear hR2 hoff hE))
 have oV : V2.off (w.heap.size + 1 + 1) := Hoff.out _ sM (WorldV.off_new HR.out oM)
 have hB1 : Below w.heap.size w w1 := ab0
 have c0' : w1.cell? ⟨w.heap.size + 1 + 1, 0, none⟩ = some (.slice none 0 0) := (hb.cell (p := ⟨w.heap.size + 1 + 1, 0, none⟩) sM).trans (by go_simp)
 have c1' : w1.cell? ⟨w.heap.size + 1 + 1, 1, none⟩ = some (.slice none 0 0) := (hb.cell (p := ⟨w.heap.size + 1 + 1, 1, none⟩) sM).trans (by go_simp)
 have c2' : w1.cell? ⟨w.heap.size + 1 + 1, 2, none⟩ = some (.slice none 0 0) := (hb.cell (p := ⟨w.heap.size + 1 + 1, 2, none⟩) sM).trans (by go_simp)
 have c3' : w1.cell? ⟨w.heap.size + 1 + 1, 3, none⟩ = some (.slice none 0 0) := (hb.cell (p := ⟨w.heap.size + 1 + 1, 3, none⟩) sM).trans (by go_simp)
 have c4' : w1.cell? ⟨w.heap.size + 1 + 1, 4, none⟩ = some (.map none) := (hb.cell (p := ⟨w.heap.size + 1 + 1, 4, none⟩) sM).trans (by go_simp)
 have c5' : w1.cell? ⟨w.heap.size + 1 + 1, 5, none⟩ = some (.slice none 0 0) := (hb.cell (p := ⟨w.heap.size + 1 + 1, 5, none⟩) sM).trans (by go_simp)
 have c6' : w1.cell? ⟨w.heap.size + 1 + 1, 6, none⟩ = some (.int .i64 0) := (hb.cell (p := ⟨w.heap.size + 1 + 1, 6, none⟩) sM).trans (by go_simp)
 have c7' : w1.cell? ⟨w.heap.size + 1 + 1, 7, none⟩ = some (.slice none 0 0) := (hb.cell (p := ⟨w.heap.size + 1 + 1, 7, none⟩) sM).trans (by go_simp)
 have c8' : w1.cell? ⟨w.heap.size + 1 + 1, 8, none⟩ = some (.slice none 0 0) := (hb.cell (p := ⟨w.heap.size + 1 + 1, 8, none⟩) sM).trans (by go_simp)
 have fz : ∀ o, w1.frozen? ⟨w.heap.size + 1 + 1, o, none⟩ = false := fun o => (hb.frozen (p := ⟨w.heap.size + 1 + 1, o, none⟩) sM).trans (by go_simp)
 obtain ⟨w2, hw2⟩ : ∃ W : World, W = w1.alloc (.cells #[.slice V2.M.mem.pA V2.M.mem.hs.length V2.M.mem.pc, .slice V2.M.mem.vA V2.M.mem.vs.length V2.M.mem.vc, .slice V2.M.ln.fA V2.M.ln.first.length V2.M.ln.fc, .slice V2.M.ln.lA V2.M.ln.logs.length V2.M.ln.lc, .map V2.M.ln.asks, .slice V2.M.sA V2.M.steps.length V2.M.sc, .int .i64 V2.M.crashes, .slice V2.tA V2.ts.length V2.tc, .slice V2.sA V2.ss.length V2.sc] 40) := ⟨_, rfl⟩
 have hB12 : Below w1.heap.size w1 w2 := by rw [hw2]; exact Below.alloc (Below.refl _ _) (Nat.le_refl _) _
 have hz1 : w.heap.size + 1 + 1 < w1.heap.size := by omega
 have c0 := (hB12.cell (p := ⟨w.heap.size + 1 + 1, 0, none⟩) hz1).trans c0'
 have c1 := (hB12.cell (p := ⟨w.heap.size + 1 + 1, 1, none⟩) hz1).trans c1'
 have c2 := (hB12.cell (p := ⟨w.heap.size + 1 + 1, 2, none⟩) hz1).trans c2'
 have c3 := (hB12.cell (p := ⟨w.heap.size + 1 + 1, 3, none⟩) hz1).trans c3'
 have c4 := (hB12.cell (p := ⟨w.heap.size + 1 + 1, 4, none⟩) hz1).trans c4'
 have c5 := (hB12.cell (p := ⟨w.heap.size + 1 + 1, 5, none⟩) hz1).trans c5'
 have c6 := (hB12.cell (p := ⟨w.heap.size + 1 + 1, 6, none⟩) hz1).trans c6'
 have c7 := (hB12.cell (p := ⟨w.heap.size + 1 + 1, 7, none⟩) hz1).trans c7'
 have c8 := (hB12.cell (p := ⟨w.heap.size + 1 + 1, 8, none⟩) hz1).trans c8'
 have fz2 : ∀ o, w2.frozen? ⟨w.heap.size + 1 + 1, o, none⟩ = false := fun o => (hB12.frozen (p := ⟨w.heap.size + 1 + 1, o, none⟩) hz1).trans (fz o)
 have hobv : w2.heap[w1.heap.size]? = some (.cells #[.slice V2.M.mem.pA V2.M.mem.hs.length V2.M.mem.pc, .slice V2.M.mem.vA V2.M.mem.vs.length V2.M.mem.vc, .slice V2.M.ln.fA V2.M.ln.first.length V2.M.ln.fc, .slice V2.M.ln.lA V2.M.ln.logs.length V2.M.ln.lc, .map V2.M.ln.asks, .slice V2.M.sA V2.M.steps.length V2.M.sc, .int .i64 V2.M.crashes, .slice V2.tA V2.ts.length V2.tc, .slice V2.sA V2.ss.length V2.sc] 40 (0, 0)) := by rw [hw2]; exact heap_new _ _ rfl
 have d0 : w2.cell? ⟨w1.heap.size, 0, none⟩ = some (.slice V2.M.mem.pA V2.M.mem.hs.length V2.M.mem.pc) := by simp [World.cell?, hobv]
 have d1 : w2.cell? ⟨w1.heap.size, 1, none⟩ = some (.slice V2.M.mem.vA V2.M.mem.vs.length V2.M.mem.vc) := by simp [World.cell?, hobv]
 have d2 : w2.cell? ⟨w1.heap.size, 2, none⟩ = some (.slice V2.M.ln.fA V2.M.ln.first.length V2.M.ln.fc) := by simp [World.cell?, hobv]
 have d3 : w2.cell? ⟨w1.heap.size, 3, none⟩ = some (.slice V2.M.ln.lA V2.M.ln.logs.length V2.M.ln.lc) := by simp [World.cell?, hobv]
 have d4 : w2.cell? ⟨w1.heap.size, 4, none⟩ = some (.map V2.M.ln.asks) := by simp [World.cell?, hobv]
 have d5 : w2.cell? ⟨w1.heap.size, 5, none⟩ = some (.slice V2.M.sA V2.M.steps.length V2.M.sc) := by simp [World.cell?, hobv]
 have d6 : w2.cell? ⟨w1.heap.size, 6, none⟩ = some (.int .i64 V2.M.crashes) := by simp [World.cell?, hobv]
 have d7 : w2.cell? ⟨w1.heap.size, 7, none⟩ = some (.slice V2.tA V2.ts.length V2.tc) := by simp [World.cell?, hobv]
 have d8 : w2.cell? ⟨w1.heap.size, 8, none⟩ = some (.slice V2.sA V2.ss.length V2.sc) := by simp [World.cell?, hobv]
 have hB2 : Below w.heap.size w w2 := hB1.trans (hB12.mono oM)
 have HR3 := hide (HR2.out.below hB12)
 have hz2 : w1.heap.size ≠ w.heap.size + 1 + 1 := by omega
 rw [← hw2]
 clear hw2 hb hb1 hobv c0' c1' c2' c3' c4' c5' c6' c7' c8' fz
 go_wp2_with fail
 have HZ := hide ((WorldV.R.set (WorldV.R.set (WorldV.R.set (WorldV.R.set (WorldV.R.set (WorldV.R.set (WorldV.R.set (WorldV.R.set (WorldV.R.set HR3.out oV (.of c0) (.slice V2.M.mem.pA V2.M.mem.hs.length V2.M.mem.pc)) oV (.set (.of c1) _) (.slice V2.M.mem.vA V2.M.mem.vs.length V2.M.mem.vc)) oV (.set (.set (.of c2) _) _) (.slice V2.M.ln.fA V2.M.ln.first.length V2.M.ln.fc)) oV (.set (.set (.set (.of c3) _) _) _) (.slice V2.M.ln.lA V2.M.ln.logs.length V2.M.ln.lc)) oV (.set (.set (.set (.set (.of c4) _) _) _) _) (.map V2.M.ln.asks)) oV (.set (.set (.set (.set (.set (.of c5) _) _) _) _) _) (.slice V2.M.sA V2.M.steps.length V2.M.sc)) oV (.set (.set (.set (.set (.set (.set (.of c6) _) _) _) _) _) _) (.int .i64 V2.M.crashes)) oV (.set (.set (.set (.set (.set (.set (.set (.of c7) _) _) _) _) _) _) _) (.slice V2.tA V2.ts.length V2.tc)) oV (.set (.set (.set (.set (.set (.set (.set (.set (.of c8) _) _) _) _) _) _) _) _) (.slice V2.sA V2.ss.length V2.sc)))
 have HB := hide ((Below.setCell (Below.setCell (Below.setCell (Below.setCell (Below.setCell (Below.setCell (Below.setCell (Below.setCell (Below.setCell hB2 (p := ⟨w.heap.size + 1 + 1, 0, none⟩) ab4 (.slice V2.M.mem.pA V2.M.mem.hs.length V2.M.mem.pc)) (p := ⟨w.heap.size + 1 + 1, 1, none⟩) ab4 (.slice V2.M.mem.vA V2.M.mem.vs.length V2.M.mem.vc)) (p := ⟨w.heap.size + 1 + 1, 2, none⟩) ab4 (.slice V2.M.ln.fA V2.M.ln.first.length V2.M.ln.fc)) (p := ⟨w.heap.size + 1 + 1, 3, none⟩) ab4 (.slice V2.M.ln.lA V2.M.ln.logs.length V2.M.ln.lc)) (p := ⟨w.heap.size + 1 + 1, 4, none⟩) ab4 (.map V2.M.ln.asks)) (p := ⟨w.heap.size + 1 + 1, 5, none⟩) ab4 (.slice V2.M.sA V2.M.steps.length V2.M.sc)) (p := ⟨w.heap.size + 1 + 1, 6, none⟩) ab4 (.int .i64 V2.M.crashes)) (p := ⟨w.heap.size + 1 + 1, 7, none⟩) ab4 (.slice V2.tA V2.ts.length V2.tc)) (p := ⟨w.heap.size + 1 + 1, 8, none⟩) ab4 (.slice V2.sA V2.ss.length V2.sc)))
 refine bodyPost_ret (v := (.agg #[.slice ((V2).M).mem.pA ((V2).M).mem.hs.length ((V2).M).mem.pc, .slice ((V2).M).mem.vA ((V2).M).mem.vs.length ((V2).M).mem.vc, .slice ((V2).M).ln.fA ((V2).M).ln.first.length ((V2).M).ln.fc, .slice ((V2).M).ln.lA ((V2).M).ln.logs.length ((V2).M).ln.lc, .map ((V2).M).ln.asks, .slice ((V2).M).sA ((V2).M).steps.length ((V2).M).sc, .int .i64 ((V2).M).crashes, .slice (V2).tA (V2).ts.length (V2).tc, .slice (V2).sA (V2).ss.length (V2).sc])) (by simp [results, Tryz.results59, go_sem]; (try go_simp)) rfl ⟨V2, rfl, HE.out, ?_, (fun C hC hV => Hoff.out C (by simp; omega) hV), ?_⟩
 ·with_reducible exact HZ.out
 ·with_reducible exact HB.out
theorem ex_pending (V : WorldV) (t : Nat) (k : TaskV) (d : Bool) (w : World) (hR : V.R w) (hk : V.ts[t]? = some k) (hn : V.ts.length ≤ 1000) (hs : V.ss[t]? = some false)
  (hact : ∀ W, Calls Tryz.prog 18 #[(tkV k)] W (Ret (.tuple #[(acV k.a), .bool d]) W)) :
  Calls Tryz.prog 94 #[(woV V), .int .i64 ((t : Int) + 1)] w (Ret (.tuple #[(acV k.a), .bool d]) w) := by
 try unfold woV
 have ht : t < V.ts.length := (List.getElem?_eq_some_iff.1 hk).1
 have hts : t < V.ss.length := (List.getElem?_eq_some_iff.1 hs).1
 obtain ⟨bl, off, e, hbl, hcl⟩ := Rd.elem hR.2.1.2.2.1 taskc_len ht hk
 obtain ⟨bs, ofs, es, hbs, s0⟩ := Rd.one hR.2.2.2.2 hts hs
 have Hact := hide hact
 obtain ⟨M, tA, tc, ts, sA, sc, ss⟩ := V
 simp only at e es ht hn hts
 subst e es
 have g1 : ¬ ((t : Int) + 1 < 1) := by omega
 have g2 : ¬ ((t : Int) + 1 > (ts.length : Int)) := by omega
 have g2' : ¬ ((ts.length : Int) < (t : Int) + 1) := by omega
 have g3 : ¬ ((t : Int) + 1 > (ss.length : Int)) := by omega
 have g3' : ¬ ((ss.length : Int) < (t : Int) + 1) := by omega
 have h0 : (0 : Int) ≤ (t : Int) := by omega
 have h1 : (t : Int) < (ts.length : Int) := by omega
 have h2 : (t : Int) < (ss.length : Int) := by omega
 have hw1 : IntKind.i64.wrap ((t : Int) + 1 - 1) = (t : Int) := by rw [show (t : Int) + 1 - 1 = (t : Int) by omega]; exact IntWalk.i64_in _ oM
 have hw2 : IntKind.i64.wrap (t : Int) = (t : Int) := IntWalk.i64_in _ oM
 have hz : bl < w.heap.size + 1 := by omega
 have hz2 : bl < w.heap.size + 1 + 1 := by omega
 have hzs : bs < w.heap.size + 1 := by omega
 have hzs2 : bs < w.heap.size + 1 + 1 := by omega
 have t0 : w.cell? ⟨bl, off + t * 11, none⟩ = some (k.c) := hcl 0 _ rfl
 have t1 : w.cell? ⟨bl, off + t * 11 + 1, none⟩ = some (k.nx) := hcl 1 _ rfl
 have t2 : w.cell? ⟨bl, off + t * 11 + 2, none⟩ = some (.int .i64 k.a.o) := hcl 2 _ rfl
 have t3 : w.cell? ⟨bl, off + t * 11 + 3, none⟩ = some (.int .i64 k.a.l) := hcl 3 _ rfl
 have t4 : w.cell? ⟨bl, off + t * 11 + 4, none⟩ = some (.int .i64 k.a.v) := hcl 4 _ rfl
 have t5 : w.cell? ⟨bl, off + t * 11 + 5, none⟩ = some (.int .u32 k.a.r) := hcl 5 _ rfl
 have t6 : w.cell? ⟨bl, off + t * 11 + 6, none⟩ = some (.int .u32 k.a.f) := hcl 6 _ rfl
 have t7 : w.cell? ⟨bl, off + t * 11 + 7, none⟩ = some (.int .i64 k.a.v2) := hcl 7 _ rfl
 have t8 : w.cell? ⟨bl, off + t * 11 + 8, none⟩ = some (.int .u32 k.a.r2) := hcl 8 _ rfl
 have t9 : w.cell? ⟨bl, off + t * 11 + 9, none⟩ = some (.int .u32 k.a.f2) := hcl 9 _ rfl
 have t10 : w.cell? ⟨bl, off + t * 11 + 10, none⟩ = some (.slice k.A k.m k.cp) := hcl 10 _ rfl
 clear hR hact hs hk hcl ht hts hn
 go_enter Tryz.func94, Tryz.ntmps94
 go_wp2_with (first
  | (go_at_call 18; refine (Hact.out _).mono ?_; rintro e w1 ⟨rfl, hb1⟩; obtain ⟨hcc1, hff1, hs1⟩ := bC hb1; (try simp at hs1); have hz10 : w.heap.size < w1.heap.size := oM; have hz11 : w.heap.size + 1 < w1.heap.size := oM))
 exact bodyPost_ret (v := .tuple #[.agg #[.int .i64 (k.a).o, .int .i64 (k.a).l, .int .i64 (k.a).v, .int .u32 (k.a).r, .int .u32 (k.a).f, .int .i64 (k.a).v2, .int .u32 (k.a).r2, .int .u32 (k.a).f2], .bool d]) (by simp [results, Tryz.results94, go_sem]; (try go_simp)) rfl ⟨rfl, ab0⟩
theorem cellB_drew {b o : Nat} {u : Value} {w : World} (h : CellB b o u w) : CellB b o u w.drew := h
theorem ex_choices_one (m : MachV) (t : Int) (a : AS) (w : World) (h1 : a.o ≠ 1) (h2 : a.o ≠ 2) :
  Calls Tryz.prog 95 #[(maV m), .int .i64 t, (acV a)] w (Ret (.int .i64 1) w) := by
 have h1' : (a.o != 1) = true := by simpa using h1
 have h2' : (a.o != 2) = true := by simpa using h2
 go_enter Tryz.func95, Tryz.ntmps95
 go_wp2_with fail
 go_ret
 exact ⟨rfl, ab0⟩
def chN (n i : Int) : Int := max 1 (n - i)
theorem abD3 {p : Prop} (h : p := by
 refine wp_region_held_drew (S := (HX w.heap.size [.slice (m).mem.pA (m).mem.hs.length (m).mem.pc, .slice (m).mem.vA (m).mem.vs.length (m).mem.vc, .slice (m).ln.fA (m).ln.first.length (m).ln.fc, .slice (m).ln.lA (m).ln.logs.length (m).ln.lc, .map (m).ln.asks, .slice (m).sA (m).steps.length (m).sc, .int .i64 (m).crashes] (w.heap.size + 1) 1 (.int .i64 k) ([]))) kR ab5 (fun hHeld => ?_)
 (try simp only [HX_drew] at hHeld)
 refine tq3 0 ?_
 refine tq3 2 ?_
 refine tq3 3 ?_
 refine wR (rs := [1, 8]) ?_
 focus
  refine aI (fun K hK => ?_) (aE fun K hK => ?_)
  focus
   go_simp
   (go_at_call 44; refine (Hmm.out _).mono ?_; rintro e w1 ⟨rfl, hb1'⟩; have hb1 : Below _ _ w1 := (by first | with_reducible exact noDrew hb1' | exact hb1'); have hsw1 := (hb1).size; (try simp at hsw1))
   go_wp2_with fail
   refine oK hK ab5 fun hHeld => ?_
   clear hK K
   refine wR (rs := [4, 8]) ?_
   refine aI (fun K hK => ?_) (aE fun K hK => ?_)
   focus
    go_simp
    (go_at_call 45; refine (Hhist.out _ (HR.out.below (Below.trans HB0.out (Below.mono (B := w0.heap.size) ab0 oM)))).mono ?_; rintro e w2 ⟨rfl, hb2'⟩; have hb2 : Below _ _ w2 := ab15; have hsw2 := (hb2).size; (try simp at hsw2))
    go_wp2_with fail
    refine oK hK ab5 fun hHeld => ?_
    clear hK K
    refine tq3 5 ?_
    refine tq3 6 ?_
    refine tq3 7 ?_
    refine wE 8 fun K hK => ?_
    go_simp
    go_wp2_with fail
    refine oS hK (S' := (HX _ _ _ _ _ ((w2.heap.size, 1) :: _))) (fun w h => HX.pop h) ab3 fun hHeld => ?_
    clear hK K
    refine wE 9 fun K hK => ?_
    have hE := hHeld.box (B := (w2.heap.size)) (n := 1) sM; have kf := hE.fz; obtain ⟨u0, k0⟩ := hE.at (j := 0) oM
    go_simp
    go_wp2_with fail
    refine oK hK ab1 fun hHeld => ?_
    clear hK K
    refine tq3 10 ?_
    refine wD ?_
   rotate_left 1
   focus
    go_simp
    go_wp2_with fail
    refine oS hK (S' := (HX _ _ _ _ _ ((w1.heap.size, 1) :: _))) (fun w h => HX.pop h) ab3 fun hHeld => ?_
    clear hK K
    refine wE 4 fun K hK => ?_
    go_simp
    (go_at_call 45; refine (Hhist.out _ (HR.out.below (Below.trans HB0.out (Below.mono (B := w0.heap.size) ab0 oM)))).mono ?_; rintro e w2 ⟨rfl, hb2'⟩; have hb2 : Below _ _ w2 := ab15; have hsw2 := (hb2).size; (try simp at hsw2))
    go_wp2_with fail
    refine oK hK ab2 fun hHeld => ?_
    clear hK K
    refine tq3 5 ?_
    refine tq3 6 ?_
    refine tq3 7 ?_
    refine wE 9 fun K hK => ?_
    have hE := hHeld.box (B := (w1.heap.size)) (n := 1) sM; have kf := hE.fz; obtain ⟨u0, k0⟩ := hE.at (j := 0) oM
    go_simp
    go_wp2_with fail
    refine oK hK ab1 fun hHeld => ?_
    clear hK K
    refine tq3 10 ?_
    refine wD ?_
   rotate_left 1
  rotate_left 2
  focus
   go_simp
   go_wp2_with fail
   refine oS hK (S' := (HX _ _ _ _ _ ((w0.heap.size, 1) :: _))) (fun w h => HX.pop h) ab3 fun hHeld => ?_
   clear hK K
   refine wE 1 fun K hK => ?_
   go_simp
   (go_at_call 44; refine (Hmm.out _).mono ?_; rintro e w1 ⟨rfl, hb1'⟩; have hb1 : Below _ _ w1 := (by first | with_reducible exact noDrew hb1' | exact hb1'); have hsw1 := (hb1).size; (try simp at hsw1))
   go_wp2_with fail
   refine oK hK ab2 fun hHeld => ?_
   clear hK K
   refine wE 4 fun K hK => ?_
   go_simp
   (go_at_call 45; refine (Hhist.out _ (HR.out.below (Below.trans HB0.out (Below.mono (B := w0.heap.size) ab0 oM)))).mono ?_; rintro e w2 ⟨rfl, hb2'⟩; have hb2 : Below _ _ w2 := ab15; have hsw2 := (hb2).size; (try simp at hsw2))
   go_wp2_with fail
   refine oK hK ab2 fun hHeld => ?_
   clear hK K
   refine tq3 5 ?_
   refine tq3 6 ?_
   refine tq3 7 ?_
   refine wE 9 fun K hK => ?_
   have hE := hHeld.box (B := (w0.heap.size)) (n := 1) sM; have kf := hE.fz; obtain ⟨u0, k0⟩ := hE.at (j := 0) oM
   go_simp
   go_wp2_with fail
   refine oK hK ab1 fun hHeld => ?_
   clear hK K
   refine tq3 10 ?_
   refine wD ?_
  rotate_left 1
 all_goals go_wp2_with fail
 all_goals go_meet
 all_goals exact ⟨_, rfl, by first | omega | (simp; done) | (simp; omega), by first | omega | (simp; done) | (simp; omega), rfl, by go_simp, ab0⟩) : p := h
theorem abD6 {p : Prop} (h : p := by
 obtain ⟨B, rfl, hB, hBx, rfl, p0, hBc⟩ := hcut
 have hsc := hBc.size
 have HS2 : HX w.heap.size [.slice (m).mem.pA (m).mem.hs.length (m).mem.pc, .slice (m).mem.vA (m).mem.vs.length (m).mem.vc, .slice (m).ln.fA (m).ln.first.length (m).ln.fc, .slice (m).ln.lA (m).ln.logs.length (m).ln.lc, .map (m).ln.asks, .slice (m).sA (m).steps.length (m).sc, .int .i64 (m).crashes] B 0 (.slice h.A h.l.length h.cap) [] wc ∧ CellB (w.heap.size + 1) 1 (.int .i64 k) wc := ⟨⟨HS.1.below hBc, CellB.of p0, by simp⟩, HS.2.1.below hBc⟩
 have HBc := hide (HB0.out.trans (hBc.mono oM))
 have hzc : w.heap.size ≤ wc.heap.size := by omega
 clear HS HB0 hBc d0 p0 hz0 hz1 hB
 go_wp2_with fail
 refine wp_region_held_drew (S := (fun W => HX w.heap.size [.slice (m).mem.pA (m).mem.hs.length (m).mem.pc, .slice (m).mem.vA (m).mem.vs.length (m).mem.vc, .slice (m).ln.fA (m).ln.first.length (m).ln.fc, .slice (m).ln.lA (m).ln.logs.length (m).ln.lc, .map (m).ln.asks, .slice (m).sA (m).steps.length (m).sc, .int .i64 (m).crashes] B 0 (.slice h.A h.l.length h.cap) ([]) W ∧ CellB (w.heap.size + 1) 1 (.int .i64 k) W)) kR ab7 (fun hHeld => ?_)
 refine tq4 0 ?_
 refine tq4 2 ?_
 refine tq4 4 ?_
 refine tq4 6 ?_
 refine tq4 7 ?_
 refine wE 1 fun K hK => ?_
 go_simp
 (go_at_call 46; refine (Hlen.out _).mono ?_; rintro e w3 ⟨rfl, hb3'⟩; have hb3 : Below _ _ w3 := ab17; have hsw3 := (hb3).size; (try simp at hsw3))
 go_wp2_with fail
 refine oK hK ab7 fun hHeld => ?_
 clear hK K
 refine wE 3 fun K hK => ?_
 go_simp
 (go_at_call 44; refine (Hmm.out _).mono ?_; rintro e w4 ⟨rfl, hb4'⟩; have hb4 : Below _ _ w4 := ab10; have hsw4 := (hb4).size; (try simp at hsw4))
 go_wp2_with fail
 refine oK hK ab7 fun hHeld => ?_
 clear hK K
 refine wE 5 fun K hK => ?_
 go_simp
 (go_at_call 47; refine (Hseen.out _ (HR.out.below (Below.trans HBc.out (Below.mono (B := wc.heap.size) ab0 oM)))).mono ?_; rintro e w5 ⟨rfl, hb5'⟩; have hb5 : Below _ _ w5 := ab9; have hsw5 := (hb5).size; (try simp at hsw5))
 go_wp2_with fail
 refine oK hK ab7 fun hHeld => ?_
 clear hK K
 refine wE 8 fun K hK => ?_
 go_simp
 (go_at_call 48; refine (Hat.out _ (HR.out.below (Below.trans HBc.out (Below.mono (B := wc.heap.size) ab0 oM)))).mono ?_; rintro e w6 ⟨rfl, hb6'⟩; have hb6 : Below _ _ w6 := (by first | with_reducible exact noDrew hb6' | exact hb6'); have hsw6 := (hb6).size; (try simp at hsw6))
 go_wp2_with fail
 refine oK hK ab7 fun hHeld => ?_
 clear hK K
 refine tq4 9 ?_
 refine tq4 10 ?_
 refine tq4 11 ?_
 refine wD ?_
 all_goals go_wp2_with fail
 all_goals go_ret
 all_goals exact ⟨rfl, Below.trans HBc.out (Below.mono (B := wc.heap.size) ab0 oM)⟩) : p := h
theorem ex_choices_load (m : MachV) (t k : Nat) (h : HistV) (v : VwV) (a : AS) (w : World) (hR : m.R w) (ho : a.o = 1) (hat : a.l = k) (hh : m.mem.hs[k]? = some h) (hv : m.mem.vs[t]? = some v) (hn : m.mem.vs.length ≤ 1000) (hL : m.mem.hs.length ≤ 4096) (hl6 : h.l.length ≤ 1000000) (hf6 : ∀ z, v.f z ≤ 1000000) :
  Calls Tryz.prog 95 #[(maV m), .int .i64 ((t : Int) + 1), (acV a)] w (Ret (.int .i64 (chN h.l.length (v.f k))) w) := by
 try unfold acV
 have hk : k < m.mem.hs.length := (List.getElem?_eq_some_iff.1 hh).1
 have hf0 : 0 ≤ v.f k := ((hR.1.2.2.2.2 v (List.mem_of_getElem? hv)).1 k).1
 have hf1 := hf6 k
 have hmm := fun W => mach_memory m W
 have hhist := fun W (h0 : m.mem.R W) => mem_history m.mem k h W h0 hh
 have hlen := fun W => hist_len h W
 have hseen := fun W (h0 : m.mem.R W) => mem_seen m.mem t v W h0 hv hn
 have hat2 := fun W (h0 : m.mem.R W) => view_at m.mem.hs.length hL v k W (h0.2.2.2.2 v (List.mem_of_getElem? hv)) oM oM
 have HR := hide hR.1
 have Hmm := hide hmm
 have Hhist := hide hhist
 have Hlen := hide hlen
 have Hseen := hide hseen
 have Hat := hide hat2
 have hw : IntKind.i64.wrap ((h.l.length : Int) - v.f k) = (h.l.length : Int) - v.f k := IntWalk.i64_in _ oM
 obtain ⟨o, l, v1, r1, f1, v2, r2, f2⟩ := a
 simp only at ho hat
 subst ho hat
 rw [show chN h.l.length (v.f k) = max 1 ((h.l.length : Int) - v.f k) from rfl]
 clear hmm hhist hlen hseen hat2 hR hh hv hf6 hn hL hl6 hk hf0 hf1
 go_enter Tryz.func95, Tryz.ntmps95
 go_upto_region 3 with fail
 obtain ⟨w0, hw0⟩ : ∃ W : World, W = (w.alloc (.cells #[.slice (m).mem.pA (m).mem.hs.length (m).mem.pc, .slice (m).mem.vA (m).mem.vs.length (m).mem.vc, .slice (m).ln.fA (m).ln.first.length (m).ln.fc, .slice (m).ln.lA (m).ln.logs.length (m).ln.lc, .map (m).ln.asks, .slice (m).sA (m).steps.length (m).sc, .int .i64 (m).crashes] 36)).alloc (.cells #[.int .i64 1, .int .i64 k, .int .i64 v1, .int .u32 r1, .int .u32 f1, .int .i64 v2, .int .u32 r2, .int .u32 f2] 68) := ⟨_, rfl⟩
 have hB0 : Below w.heap.size w w0 := by rw [hw0]; exact ab0
 have hs0 : w0.heap.size = w.heap.size + 1 + 1 := by rw [hw0]; simp
 have hz0 : w.heap.size < w0.heap.size := by omega
 have hz1 : w.heap.size + 1 < w0.heap.size := by omega
 have d0 : w0.cell? ⟨w.heap.size + 1, 1, none⟩ = some (.int .i64 k) := by rw [hw0]; go_simp
 have HS : HX w.heap.size [.slice (m).mem.pA (m).mem.hs.length (m).mem.pc, .slice (m).mem.vA (m).mem.vs.length (m).mem.vc, .slice (m).ln.fA (m).ln.first.length (m).ln.fc, .slice (m).ln.lA (m).ln.logs.length (m).ln.lc, .map (m).ln.asks, .slice (m).sA (m).steps.length (m).sc, .int .i64 (m).crashes] (w.heap.size + 1) 1 (.int .i64 k) [] w0 := ⟨by rw [hw0]; exact (BoxC.made w #[.slice (m).mem.pA (m).mem.hs.length (m).mem.pc, .slice (m).mem.vA (m).mem.vs.length (m).mem.vc, .slice (m).ln.fA (m).ln.first.length (m).ln.fc, .slice (m).ln.lA (m).ln.logs.length (m).ln.lc, .map (m).ln.asks, .slice (m).sA (m).steps.length (m).sc, .int .i64 (m).crashes] 36).below ab0, CellB.of d0, by simp⟩
 have HB0 := hide hB0
 rw [← hw0]
 clear hw0 hB0 hs0
 go_cut [7, 8] from 17 to 24 (fun s7 s8 wx => ∃ B : Nat, s7 = .pointer (some ⟨B, 0, none⟩) ∧ w0.heap.size ≤ B ∧ B < wx.heap.size ∧ s8 = .bool true ∧ wx.cell? ⟨B, 0, none⟩ = some (.slice h.A h.l.length h.cap) ∧ Below w0.heap.size w0 wx)
 case first =>
  exact abD3
 case rest =>
  exact abD6
theorem info_step : (Tryz.prog.info? 146).map (fun i => (i.zero, i.size, i.bytes)) = some (some (.agg #[.int .i64 0, .int .i64 0]), 2, 16) := by kernel_rfl
def stc (p : Nat × Nat) : List Value := [.int .i64 ((p.1 : Int) + 1), .int .i64 p.2]
theorem stc_one (p : Nat × Nat) : ∀ u ∈ stc p, u.oneCell' = true := by
 intro u hu
 simp [stc] at hu
 rcases hu with rfl | rfl <;> rfl
def stpTo (cs : List Nat) (k : Nat) : List (Nat × Nat) := (List.range k).flatMap fun t => (List.range (cs.getD t 0)).map fun c => (t, c)
theorem stpTo_succ (cs : List Nat) (k : Nat) : stpTo cs (k + 1) = stpTo cs k ++ (List.range (cs.getD k 0)).map (fun c => (k, c)) := by
 unfold stpTo
 rw [List.range_succ, List.flatMap_append]
 simp
theorem rng_succ (k c : Nat) (l : List (Nat × Nat)) : l ++ (List.range (c + 1)).map (fun c => (k, c)) = l ++ (List.range c).map (fun c => (k, c)) ++ [(k, c)] := by
 rw [List.range_succ, List.map_append, List.append_assoc]
 rfl
def Pend (V : WorldV) (k n : Nat) (a : AS) : Prop := (∀ W, V.R W → Calls Tryz.prog 94 #[(.agg #[.slice ((V).M).mem.pA ((V).M).mem.hs.length ((V).M).mem.pc, .slice ((V).M).mem.vA ((V).M).mem.vs.length ((V).M).mem.vc, .slice ((V).M).ln.fA ((V).M).ln.first.length ((V).M).ln.fc, .slice ((V).M).ln.lA ((V).M).ln.logs.length ((V).M).ln.lc, .map ((V).M).ln.asks, .slice ((V).M).sA ((V).M).steps.length ((V).M).sc, .int .i64 ((V).M).crashes, .slice (V).tA (V).ts.length (V).tc, .slice (V).sA (V).ss.length (V).sc]), .int .i64 ((k : Int) + 1)] W fun e w' => e = .returned (.tuple #[.agg #[.int .i64 (a).o, .int .i64 (a).l, .int .i64 (a).v, .int .u32 (a).r, .int .u32 (a).f, .int .i64 (a).v2, .int .u32 (a).r2, .int .u32 (a).f2], .bool (decide (0 < n))]) ∧ Below W.heap.size W w')
 ∧ (0 < n → ∀ W, V.R W → Calls Tryz.prog 95 #[.agg #[.slice (V.M).mem.pA (V.M).mem.hs.length (V.M).mem.pc, .slice (V.M).mem.vA (V.M).mem.vs.length (V.M).mem.vc, .slice (V.M).ln.fA (V.M).ln.first.length (V.M).ln.fc, .slice (V.M).ln.lA (V.M).ln.logs.length (V.M).ln.lc, .map (V.M).ln.asks, .slice (V.M).sA (V.M).steps.length (V.M).sc, .int .i64 (V.M).crashes], .int .i64 ((k : Int) + 1), .agg #[.int .i64 (a).o, .int .i64 (a).l, .int .i64 (a).v, .int .u32 (a).r, .int .u32 (a).f, .int .i64 (a).v2, .int .u32 (a).r2, .int .u32 (a).f2]] W fun e w' => e = .returned (.int .i64 n) ∧ Below W.heap.size W w')
theorem ex_steps (V : WorldV) (cs : List Nat) (w : World) (hR : V.R w) (hl : cs.length = V.ts.length) (hn : V.ts.length ≤ 1000) (hb : ∀ k, (stpTo cs k).length ≤ 1000000) (hp : ∀ k n, cs[k]? = some n → ∃ a, Pend V k n a) :
  Calls Tryz.prog 58 #[(woV V)] w fun e w' => ∃ v : Value, e = .returned v ∧ w'.ownsRow w.heap.size 146 2 v (stpTo cs V.ts.length).length ((stpTo cs V.ts.length).flatMap stc) ∧ Below w.heap.size w w' := by
 obtain ⟨i0, hi, iz0, iz1, iz2⟩ := info_parts info_step
 have Hi := hide hi
 have HR := hide hR
 have Hp := hide hp
 have Hb := hide hb
 have Hl := hide hl
 clear hR hp hb hl hi
 go_enter Tryz.func58, Tryz.ntmps58
 go_wp2_with fail
 obtain ⟨w1, hw1⟩ : ∃ W : World, W = w.alloc (.cells #[.slice V.M.mem.pA V.M.mem.hs.length V.M.mem.pc, .slice V.M.mem.vA V.M.mem.vs.length V.M.mem.vc, .slice V.M.ln.fA V.M.ln.first.length V.M.ln.fc, .slice V.M.ln.lA V.M.ln.logs.length V.M.ln.lc, .map V.M.ln.asks, .slice V.M.sA V.M.steps.length V.M.sc, .int .i64 V.M.crashes, .slice V.tA V.ts.length V.tc, .slice V.sA V.ss.length V.sc] 40) := ⟨_, rfl⟩
 have hB1 : Below w.heap.size w w1 := by rw [hw1]; exact Below.alloc (Below.refl _ _) (Nat.le_refl _) _
 have hs1 : w.heap.size + 1 ≤ w1.heap.size := by rw [hw1]; simp
 have hob : w1.heap[w.heap.size]? = some (.cells #[.slice V.M.mem.pA V.M.mem.hs.length V.M.mem.pc, .slice V.M.mem.vA V.M.mem.vs.length V.M.mem.vc, .slice V.M.ln.fA V.M.ln.first.length V.M.ln.fc, .slice V.M.ln.lA V.M.ln.logs.length V.M.ln.lc, .map V.M.ln.asks, .slice V.M.sA V.M.steps.length V.M.sc, .int .i64 V.M.crashes, .slice V.tA V.ts.length V.tc, .slice V.sA V.ss.length V.sc] 40 (0, 0)) := by rw [hw1]; exact heap_new _ _ rfl
 have Hob := hide hob
 have HB1 := hide hB1
 rw [← hw1]
 clear hw1 hB1 hob
 go_loopw [3, 4] (fun v i wr => ∃ k : Nat, i = .int .i64 ((k : Int) + 1) ∧ k ≤ V.ts.length ∧ wr.ownsRow w1.heap.size 146 2 v (stpTo cs k).length ((stpTo cs k).flatMap stc) ∧ Hid (Below w1.heap.size w1 wr)) (fun _ i _ => V.ts.length + 1 - (intOf i).toNat)
 case atStart => exact ⟨0, rfl, by omega, World.ownsRow_nil _ _ _ _, hide (Below.refl _ _)⟩
 case round =>
  obtain ⟨k, rfl, hk, hown, HB⟩ := hrel
  have hzb : w.heap.size < w1.heap.size := by omega
  have hobr := (HB.out.block w.heap.size hzb).trans Hob.out
  have c0 : wr.cell? ⟨w.heap.size, 0, none⟩ = some (.slice V.M.mem.pA V.M.mem.hs.length V.M.mem.pc) := by simp [World.cell?, hobr]
  have c1 : wr.cell? ⟨w.heap.size, 1, none⟩ = some (.slice V.M.mem.vA V.M.mem.vs.length V.M.mem.vc) := by simp [World.cell?, hobr]
  have c2 : wr.cell? ⟨w.heap.size, 2, none⟩ = some (.slice V.M.ln.fA V.M.ln.first.length V.M.ln.fc) := by simp [World.cell?, hobr]
  have c3 : wr.cell? ⟨w.heap.size, 3, none⟩ = some (.slice V.M.ln.lA V.M.ln.logs.length V.M.ln.lc) := by simp [World.cell?, hobr]
  have c4 : wr.cell? ⟨w.heap.size, 4, none⟩ = some (.map V.M.ln.asks) := by simp [World.cell?, hobr]
  have c5 : wr.cell? ⟨w.heap.size, 5, none⟩ = some (.slice V.M.sA V.M.steps.length V.M.sc) := by simp [World.cell?, hobr]
  have c6 : wr.cell? ⟨w.heap.size, 6, none⟩ = some (.int .i64 V.M.crashes) := by simp [World.cell?, hobr]
  have c7 : wr.cell? ⟨w.heap.size, 7, none⟩ = some (.slice V.tA V.ts.length V.tc) := by simp [World.cell?, hobr]
  have c8 : wr.cell? ⟨w.heap.size, 8, none⟩ = some (.slice V.sA V.ss.length V.sc) := by simp [World.cell?, hobr]
  have hsr : w1.heap.size ≤ wr.heap.size := HB.out.size
  have hzr : w.heap.size < wr.heap.size := by omega
  have HRr := hide (HR.out.below (HB1.out.trans (HB.out.mono oM)))
  by_cases hlt : (k : Int) + 1 ≤ V.ts.length
  ·have hk1 : k < V.ts.length := by omega
   obtain ⟨n, hcn⟩ : ∃ n, cs[k]? = some n := ⟨_, List.getElem?_eq_getElem (by have := Hl.out; omega)⟩
   obtain ⟨a, hp1, hp2⟩ := Hp.out k n hcn
   have hget : cs.getD k 0 = n := by rw [List.getD_eq_getElem?_getD, hcn]; rfl
   have hst := stpTo_succ cs k
   rw [hget] at hst
   have hbk := Hb.out (k + 1)
   have Hst := hide hst
   have Hown := hide hown
   have j0 : (0 : Int) ≤ (k : Int) := by omega
   by_cases h0 : 0 < n
   ·have hlen2 : (stpTo cs k).length + n ≤ 1000000 := by
     rw [hst] at hbk
     simpa using hbk
    rw [decide_eq_true h0] at hp1
    have Hp1 := hide hp1
    have Hp2 := hide (hp2 h0)
    clear hp1 hp2 hst hbk hget hobr hcn hown
    go_upto_region 8 with (first
     | (go_at_call 94; refine (Hp1.out _ HRr.out).mono ?_; rintro e w2 ⟨rfl, hb2⟩; obtain ⟨hcc2, hff2, hs2⟩ := bC hb2; have HR2 := hide (HRr.out.below hb2); have hz2 : w.heap.size < w2.heap.size := oM)
     | (go_at_call 95; refine (Hp2.out _ (HR2.out.below (Below.alloc (Below.refl _ _) (Nat.le_refl _) _))).mono ?_; rintro e w3 ⟨rfl, hb3⟩; have hs3 := hb3.size; (try simp at hs3)))
    have hB3 : Below w1.heap.size w1 w3 := HB.out.trans (((hb2.trans (Below.alloc (Below.refl _ _) hs2 _)).trans (hb3.mono (by simp; omega))).mono hsr)
    have HB3 := hide hB3
    have hown3 : w3.ownsRow w1.heap.size 146 2 _ (stpTo cs k).length ((stpTo cs k).flatMap stc) := own_below Hown.out ((hb2.trans (Below.alloc (Below.refl _ _) hs2 _)).trans (hb3.mono (by simp; omega)))
    clear hb2 hcc2 hff2 hb3 hB3 c0 c1 c2 c3 c4 c5 c6 c7 c8
    have hs13 : w1.heap.size ≤ w3.heap.size := HB3.out.size
    have Hown3 := hide hown3
    clear hown3
    go_loopw [3, 28] (fun v i wq => ∃ c : Nat, i = .int .i64 c ∧ c ≤ n ∧ Hid (wq.ownsRow w1.heap.size 146 2 v ((stpTo cs k).length + c) ((stpTo cs k ++ (List.range c).map (fun c => (k, c))).flatMap stc)) ∧ Hid (Below w1.heap.size w1 wq)) (fun _ i _ => n - (intOf i).toNat)
    case atStart => exact ⟨0, rfl, by omega, hide (by simpa using Hown3.out), HB3⟩
    case round =>
     obtain ⟨c, rfl, hc, Hownq, HBq⟩ := hrel
     have i1 : (0 : Int) ≤ (c : Int) := by omega
     have hsq : w1.heap.size ≤ wr.heap.size := HBq.out.size
     by_cases hltc : (c : Int) < (n : Int)
     ·have hi := Hi.out
      go_wp2_with (at_builtin; (refine wpList_append_own _ rfl _ _ 143 rfl w1.heap.size 146 i0 _ 2 16 Tryz.underlying143 hi iz0 iz1 iz2 rfl dM _ ((stpTo cs k).length + c) ((stpTo cs k ++ (List.range c).map (fun c => (k, c))).flatMap stc) rfl (own_below Hownq.out ab0) ⟨wr.heap.size, 0, none⟩ 1 1 (stc (k, c)) rfl rfl ?o2 ?o3 ?o4 ?o5 ?o6 ?_))
      case o2 =>
       intro j u hj
       match j, hj with
       | 0, hj => simp [stc] at hj; subst hj; simp [Addr.add]
       | 1, hj => simp [stc] at hj; subst hj; simp [Addr.add]
       | (j + 2), hj => simp [stc] at hj
      case o3 => exact stc_one _
      case o4 => unfold maxLen; omega
      case o5 => omega
      case o6 => simp; omega
      intro v' w5 hown' hg _
      have hown5 : w5.ownsRow w1.heap.size 146 2 v' ((stpTo cs k).length + (c + 1)) ((stpTo cs k ++ (List.range (c + 1)).map (fun c => (k, c))).flatMap stc) := by
       rw [rng_succ]
       simp only [List.flatMap_append, List.append_assoc, List.flatMap_cons, List.flatMap_nil, List.append_nil] at hown' ⊢
       exact hown'
      have hB5 : Below w1.heap.size w1 w5 := below_grown (HBq.out.alloc hsq _) hg (own_below Hownq.out ab0) (Nat.le_refl _) (by simp; omega)
      have Hown5 := hide hown5
      have HB5 := hide hB5
      clear hown' hg hown5 hB5 hi
      go_wp2_with fail
      first
       | exact ⟨⟨c + 1, by go_num, by omega, Hown5, HB5⟩, by simp [intOf]; omega⟩
       | ((repeat apply Exists.intro); exact ⟨⟨c + 1, by go_num, by omega, Hown5, HB5⟩, rfl⟩)
     ·obtain rfl : n = c := by omega
      have Hown6 : Hid (wr.ownsRow w1.heap.size 146 2 _ (stpTo cs (k + 1)).length ((stpTo cs (k + 1)).flatMap stc)) := hide (by rw [Hst.out, List.length_append, List.length_map, List.length_range]; exact Hownq.out)
      clear Hownq
      go_wp2_with fail
      first
       | exact ⟨⟨k + 1, by go_num, by omega, Hown6.out, HBq⟩, by simp [intOf]; omega⟩
       | ((repeat apply Exists.intro); exact ⟨⟨k + 1, by go_num, by omega, Hown6.out, HBq⟩, by simp [intOf]; omega⟩)
   ·obtain rfl : n = 0 := by omega
    have hst2 : stpTo cs (k + 1) = stpTo cs k := by rw [hst]; simp
    have hp1' := hp1
    rw [show decide (0 < 0) = false from rfl] at hp1'
    have Hp1 := hide hp1'
    have Hst2 := hide hst2
    clear hp1 hp2 hst hbk hget hobr hcn hown hst2 hp1' h0
    go_wp2_with (first
     | (go_at_call 94; refine (Hp1.out _ HRr.out).mono ?_; rintro e w2 ⟨rfl, hb2⟩; have Hb2 := hide hb2; have hs2 := hb2.size; clear hb2))
    have hown6 : Hid (World.ownsRow _ w1.heap.size 146 2 _ (stpTo cs (k + 1)).length ((stpTo cs (k + 1)).flatMap stc)) := hide (by rw [Hst2.out]; exact own_below Hown.out (Hb2.out.trans (Below.alloc (Below.refl _ _) hs2 (.cells #[.int .i64 (a).o, .int .i64 (a).l, .int .i64 (a).v, .int .u32 (a).r, .int .u32 (a).f, .int .i64 (a).v2, .int .u32 (a).r2, .int .u32 (a).f2] 68))))
    have hB6 := hide (HB.out.trans ((Hb2.out.trans (Below.alloc (Below.refl _ _) hs2 (.cells #[.int .i64 (a).o, .int .i64 (a).l, .int .i64 (a).v, .int .u32 (a).r, .int .u32 (a).f, .int .i64 (a).v2, .int .u32 (a).r2, .int .u32 (a).f2] 68))).mono hsr))
    first
     | exact ⟨⟨k + 1, by go_num, by omega, hown6.out, hB6⟩, by simp [intOf]; omega⟩
     | ((repeat apply Exists.intro); exact ⟨⟨k + 1, by go_num, by omega, hown6.out, hB6⟩, by simp [intOf]; omega⟩)
  ·obtain rfl : V.ts.length = k := by omega
   have Hown := hide hown
   clear hown hobr
   go_wp2_with fail
   go_ret
   exact ⟨_, rfl, ownsRow_base_a Hown.out oM, HB1.out.trans (HB.out.mono oM)⟩
theorem mach_word (m : MachV) (k j : Nat) (h : HistV) (g : MsgV) (w : World) (hR : m.mem.R w) (hh : m.mem.hs[k]? = some h) (hj : h.l.length = j + 1) (hj6 : j ≤ 1000000) (hg : h.l[j]? = some g) : Calls Tryz.prog 68 #[(maV m), .int .i64 k] w (Ret (.tuple #[.agg #[.int .i64 g.x.v, .int .u32 g.x.r, .int .u32 g.x.f], .bool true]) w) := by
 have hl := fun W (hw : m.mem.R W) => mem_last m.mem k j h g W hw hh hj hj6 hg
 have Hl := hide hl
 have HR := hide hR
 clear hl hR hh hj hg
 go_enter Tryz.func68, Tryz.ntmps68
 go_wp2_with (first | (go_at_call 115; refine (Hl.out _ (HR.out.below ab0)).mono ?_; rintro e w1 ⟨rfl, hb1⟩; obtain ⟨hcc1, hff1, hs1⟩ := bC hb1; (try simp at hs1); have hz1 : w.heap.size + 1 < w1.heap.size := oM))
 exact bodyPost_ret (v := .tuple #[.agg #[.int .i64 g.x.v, .int .u32 g.x.r, .int .u32 g.x.f], .bool true]) (by simp [results, Tryz.results68, go_sem]; (try go_simp)) rfl ⟨rfl, ab0⟩
theorem info_word : (Tryz.prog.info? 66).map (fun i => (i.zero, i.size, i.bytes)) = some (some (.agg #[.int .i64 0, .int .u32 0, .int .u32 0]), 3, 16) := by kernel_rfl
theorem w3c_one (x : W3) : ∀ u ∈ w3c x, u.oneCell' = true := by
 intro u hu
 simp [w3c] at hu
 rcases hu with rfl | rfl | rfl <;> rfl
theorem mach_words (m : MachV) (ws : List W3) (w : World) (hR : m.mem.R w) (hl : ws.length = m.mem.hs.length) (hL : m.mem.hs.length ≤ 4096) (hw : ∀ (k : Nat) (x : W3), ws[k]? = some x → ∀ W, m.mem.R W → Calls Tryz.prog 68 #[(maV m), .int .i64 k] W (Ret (.tuple #[(w3V x), .bool true]) W)) :
  Calls Tryz.prog 32 #[(maV m)] w fun e w' => ∃ v : Value, e = .returned v ∧ w'.ownsRow w.heap.size 66 3 v ws.length (ws.flatMap w3c) ∧ Below w.heap.size w w' := by
 obtain ⟨i0, hi, iz0, iz1, iz2⟩ := info_parts info_word
 have hsz := fun W => mach_size m W
 have Hi := hide hi
 have Hsz := hide hsz
 have HR := hide hR
 have Hw := hide hw
 have Hl := hide hl
 clear hR hw hl hi hsz
 go_enter Tryz.func32, Tryz.ntmps32
 go_wp2_with (first
  | (go_at_call 54; refine (Hsz.out _).mono ?_; rintro e w1 ⟨rfl, hb1⟩; have Hb1 := hide hb1; have hs1 := hb1.size; (try simp at hs1); clear hb1))
 have hob : w1.heap[w.heap.size]? = some (.cells #[.slice m.mem.pA m.mem.hs.length m.mem.pc, .slice m.mem.vA m.mem.vs.length m.mem.vc, .slice m.ln.fA m.ln.first.length m.ln.fc, .slice m.ln.lA m.ln.logs.length m.ln.lc, .map m.ln.asks, .slice m.sA m.steps.length m.sc, .int .i64 m.crashes] 36 (0, 0)) := (Hb1.out.block w.heap.size sM).trans (heap_new _ _ rfl)
 have HB1 : Hid (Below w.heap.size w w1) := hide ((Below.alloc (Below.refl _ _) (Nat.le_refl _) _).trans (Hb1.out.mono sM))
 have Hob := hide hob
 clear hob Hb1
 go_loopw [5, 15] (fun v i wr => ∃ k : Nat, i = .int .i64 k ∧ k ≤ ws.length ∧ Hid (wr.ownsRow w1.heap.size 66 3 v k ((ws.take k).flatMap w3c)) ∧ Hid (Below w1.heap.size w1 wr)) (fun _ i _ => ws.length - (intOf i).toNat)
 case atStart => exact ⟨0, rfl, by omega, hide (World.ownsRow_nil _ _ _ _), hide (Below.refl _ _)⟩
 case round =>
  obtain ⟨k, rfl, hk, Hown, HB⟩ := hrel
  have hzb : w.heap.size < w1.heap.size := by omega
  have hsr : w1.heap.size ≤ wr.heap.size := HB.out.size
  have hzr : w.heap.size < wr.heap.size := by omega
  have hws := Hl.out
  by_cases hlt : (k : Int) < m.mem.hs.length
  ·have hk1 : k < ws.length := by omega
   obtain ⟨x, hx⟩ : ∃ x, ws[k]? = some x := ⟨_, List.getElem?_eq_getElem hk1⟩
   have hobr := (HB.out.block w.heap.size hzb).trans Hob.out
   have c0 : wr.cell? ⟨w.heap.size, 0, none⟩ = some (.slice m.mem.pA m.mem.hs.length m.mem.pc) := by simp [World.cell?, hobr]
   have c1 : wr.cell? ⟨w.heap.size, 1, none⟩ = some (.slice m.mem.vA m.mem.vs.length m.mem.vc) := by simp [World.cell?, hobr]
   have c2 : wr.cell? ⟨w.heap.size, 2, none⟩ = some (.slice m.ln.fA m.ln.first.length m.ln.fc) := by simp [World.cell?, hobr]
   have c3 : wr.cell? ⟨w.heap.size, 3, none⟩ = some (.slice m.ln.lA m.ln.logs.length m.ln.lc) := by simp [World.cell?, hobr]
   have c4 : wr.cell? ⟨w.heap.size, 4, none⟩ = some (.map m.ln.asks) := by simp [World.cell?, hobr]
   have c5 : wr.cell? ⟨w.heap.size, 5, none⟩ = some (.slice m.sA m.steps.length m.sc) := by simp [World.cell?, hobr]
   have c6 : wr.cell? ⟨w.heap.size, 6, none⟩ = some (.int .i64 m.crashes) := by simp [World.cell?, hobr]
   have HRr := hide (HR.out.below (HB1.out.trans (HB.out.mono oM)))
   have hwk := Hw.out k x hx
   have Hwk := hide hwk
   have Hx := hide hx
   have j0 : (0 : Int) ≤ (k : Int) := by omega
   clear hobr hwk hx hws
   have hi := Hi.out
   go_wp2_with (first
    | (go_at_call 68; refine (Hwk.out _ HRr.out).mono ?_; rintro e w2 ⟨rfl, hb2⟩; have Hb2 := hide hb2; have hs2 := hb2.size; clear hb2)
    | (at_builtin; (refine wpList_append_own _ rfl _ _ 22 rfl w1.heap.size 66 i0 _ 3 16 Tryz.underlying22 hi iz0 iz1 iz2 rfl dM _ k ((ws.take k).flatMap w3c) rfl (own_below Hown.out ((Hb2.out.trans (Below.alloc (Below.refl _ _) hs2 _)).trans (Below.alloc (Below.refl _ _) (by simp; omega) _))) ⟨w2.heap.size + 1, 0, none⟩ 1 1 (w3c x) rfl rfl ?o2 ?o3 ?o4 ?o5 ?o6 ?_)))
   case o2 =>
    intro j u hj
    match j, hj with
    | 0, hj => simp [w3c] at hj; subst hj; simp [Addr.add]
    | 1, hj => simp [w3c] at hj; subst hj; simp [Addr.add]
    | 2, hj => simp [w3c] at hj; subst hj; simp [Addr.add]
    | (j + 3), hj => simp [w3c] at hj
   case o3 => exact w3c_one _
   case o4 => unfold maxLen; omega
   case o5 => omega
   case o6 => simp; omega
   intro v' w5 hown' hg _
   have hown5 : w5.ownsRow w1.heap.size 66 3 v' (k + 1) ((ws.take (k + 1)).flatMap w3c) := by
    rw [flat_take Hx.out]
    exact hown'
   have hB5 : Below w1.heap.size w1 w5 := below_grown ((HB.out.trans ((Hb2.out.trans (Below.alloc (Below.refl _ _) hs2 _)).trans (Below.alloc (Below.refl _ _) (by simp; omega) _) |>.mono hsr))) hg (own_below Hown.out ((Hb2.out.trans (Below.alloc (Below.refl _ _) hs2 _)).trans (Below.alloc (Below.refl _ _) (by simp; omega) _))) (Nat.le_refl _) (by simp; omega)
   have Hown5 := hide hown5
   have HB5 := hide hB5
   clear hown' hg hown5 hB5 hi
   go_wp2_with fail
   first
    | exact ⟨⟨k + 1, by go_num, by omega, Hown5, HB5⟩, by simp [intOf]; omega⟩
    | ((repeat apply Exists.intro); exact ⟨⟨k + 1, by go_num, by omega, Hown5, HB5⟩, by simp [intOf]; omega⟩)
  ·obtain rfl : ws.length = k := by omega
   have Hown6 : Hid (World.ownsRow wr w1.heap.size 66 3 _ ws.length (ws.flatMap w3c)) := hide (by have q := Hown.out; rw [List.take_length] at q; exact q)
   have hbs : w.heap.size ≤ w1.heap.size := by omega
   clear Hown hws
   go_wp2_with fail
   go_ret
   exact ⟨_, rfl, ownsRow_base_a Hown6.out hbs, HB1.out.trans (HB.out.mono oM)⟩
end Go.Proofs.YtnnmenmifphadaaGreatDoor
