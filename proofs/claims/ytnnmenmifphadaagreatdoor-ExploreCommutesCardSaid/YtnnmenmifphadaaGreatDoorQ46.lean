/- Package simulcastlaw59: World. -/
import Derived.Lib.ItoaLen
import Derived.Test.YtnnmenmifphadaaGreatDoorQ32
import Derived.Test.YtnnmenmifphadaaGreatDoorQ45
set_option linter.unusedSimpArgs false
set_option linter.unusedVariables false
set_option maxRecDepth 100000
set_option maxHeartbeats 40000000
namespace Go.Proofs.YtnnmenmifphadaaGreatDoor
open Go.RowKit Go.Maps Go.Sort
theorem info_code59 : (Tryz.prog.info? 71).map (fun i => (i.zero, i.size, i.bytes)) = some (some .nilIface, 1, 16) := by kernel_rfl
structure ActsV where
 A : Nat → Option Addr
 c : Nat → Nat
 l : Nat → List AS
def ActsV.sl (x : ActsV) (k : Nat) : Value := .slice (x.A k) (x.l k).length (x.c k)
def ActsV.cv (x : ActsV) (k : Nat) : Value := .iface 80 (rowV (x.A k) (x.l k).length (x.c k) 0)
def ActsV.tot (x : ActsV) (k : Nat) : Nat := ((List.range k).map (fun j => (x.l j).length)).sum
theorem ActsV.tot_succ (x : ActsV) (k : Nat) : x.tot (k + 1) = x.tot k + (x.l k).length := by
 unfold ActsV.tot
 rw [List.range_succ, List.map_append, List.sum_append]
 simp
def ActsV.R (w : World) (B : Nat) (x : ActsV) : Prop := ∀ k, k < 3 → Rd w B 8 (x.A k) (x.l k).length ((x.l k).flatMap actc)
def PW0 (ws : List W3) (x : ActsV) : PW := ⟨⟨ws.map (fun y => [(y, 0, fun _ => 0)]), List.replicate 3 (fun _ => 0), List.replicate ((ws.length + 7) / 8) (0, []), fun _ _ => 0⟩, (List.range 3).map (fun k => ⟨x.A k, x.c k, x.l k, 0⟩), List.replicate 3 [], List.replicate 3 false⟩
theorem fresh_shows {M : MachV} {ws : List W3} (h : M.fresh 3 ws) (x : ActsV) : MShows M (PW0 ws x).q := by
 obtain ⟨h1, h2, h3, h4, h5, h6, h7, h8⟩ := h
 refine ⟨?_, ?_, ?_, ?_, h8, ?_⟩
 ·show M.mem.hs.map (fun h => h.l.map msgP) = ws.map (fun y => [(y, 0, fun _ => 0)])
  rw [show (fun h : HistV => h.l.map msgP) = (fun l => l.map msgP) ∘ HistV.l from rfl, ← List.map_map, h1, List.map_map]
  rfl
 ·rw [h2]; rfl
 ·rw [h4, List.map_replicate]; rfl
 ·rw [h3]; simp [PW0]
 ·rw [h6]; simp [PW0]
theorem world_ok (A : Option Addr) (n cap : Nat) (ws : List W3) (x : ActsV) (w : World) (hw : ws.length = n) (hr : Rd w w.heap.size 3 A n (ws.flatMap w3c)) (hx : x.R w w.heap.size) (h4 : ∀ k, k < 3 → (x.l k).length ≤ 4) (h7 : x.tot 3 ≤ 7) (hn1 : 1 ≤ n) (hn2 : n ≤ 12) :
  Calls Tryz.prog 7 #[.slice A n cap, .agg #[x.sl 0, x.sl 1, x.sl 2]] w fun e w' => ∃ V : WorldV, e = .returned (.tuple #[(woV V), .bool true]) ∧ Shows V (PW0 ws x) ∧ V.R w' ∧ Below w.heap.size w w' := by
 obtain ⟨i0, hi0, jz0, jz1, jz2⟩ := info_parts info_code59
 have hi := hide hi0
 have iz0 := hide jz0
 have iz1 := hide jz1
 have iz2 := hide jz2
 obtain ⟨k0, p0, q0⟩ := rt_start (x.A 0) (x.c 0) (x.l 0) w (hx 0 oM)
 obtain ⟨k1, p1, q1⟩ := rt_start (x.A 1) (x.c 1) (x.l 1) w (hx 1 oM)
 obtain ⟨k2, p2, q2⟩ := rt_start (x.A 2) (x.c 2) (x.l 2) w (hx 2 oM)
 have hst : ∀ (j : Nat) (c : Value) (k : TaskV) (W : World), ((List.range 3).map x.cv)[j]? = some c → [k0, k1, k2][j]? = some k → Below w.heap.size w W → Calls Tryz.prog 55 #[c] W fun e w' => e = .returned (.agg #[k.c, k.nx, .int .i64 k.a.o, .int .i64 k.a.l, .int .i64 k.a.v, .int .u32 k.a.r, .int .u32 k.a.f, .int .i64 k.a.v2, .int .u32 k.a.r2, .int .u32 k.a.f2, .slice k.A k.m k.cp]) ∧ Below W.heap.size W w' := by
  intro j c k W hc hk hW
  match j, hc, hk with
  | 0, hc, hk => injection hc with hc; injection hk with hk; subst hc hk; exact q0 W hW
  | 1, hc, hk => injection hc with hc; injection hk with hk; subst hc hk; exact q1 W hW
  | 2, hc, hk => injection hc with hc; injection hk with hk; subst hc hk; exact q2 W hW
  | j + 3, hc, hk => cases hk
 have hks : ∀ k ∈ [k0, k1, k2], k.ok ∧ k.A = none ∧ k.m = 0 ∧ k.cp = 0 ∧ k.l = [] := by
  intro k hk
  simp only [List.mem_cons, List.not_mem_nil, or_false] at hk
  rcases hk with rfl | rfl | rfl
  ·exact ⟨TS.ok p0.1, p0.2⟩
  ·exact ⟨TS.ok p1.1, p1.2⟩
  ·exact ⟨TS.ok p2.1, p2.2⟩
 have hmk := fun (M : MachV) (A : Option Addr) (cap : Nat) (W : World) (hR : M.R W) (hth : 3 ≤ M.mem.vs.length) (hr : Rd W W.heap.size 1 A 3 ((List.range 3).map x.cv)) (hW : Below w.heap.size w W) => task_make M A 3 cap ((List.range 3).map x.cv) [k0, k1, k2] W hR hth oM oM hr rfl hks (fun j c k W2 hc hk h2 => hst j c k W2 hc hk (hW.trans (h2.mono hW.size)))
 have hnw := fun W (h : Below w.heap.size w W) => mach_new 3 n A cap ws W hw ((hr.below h).more h.size) oM oM hn1 oM
 have hsh : ∀ V : WorldV, V.M.fresh 3 ws → V.ts = [k0, k1, k2] → V.ss = List.replicate 3 false → Shows V (PW0 ws x) := by
  intro V hf ht hs
  refine ⟨fresh_shows hf x, ?_, hs, by rw [ht]; rfl, rfl, ?_⟩
  ·rw [ht]
   show [k0.l, k1.l, k2.l] = [[], [], []]
   rw [p0.2.2.2.2, p1.2.2.2.2, p2.2.2.2.2]
  ·intro t k r hk hr
   rw [ht] at hk
   match t, hk, hr with
   | 0, hk, hr => injection hk with hk; injection hr with hr; subst hk hr; exact p0.1
   | 1, hk, hr => injection hk with hk; injection hr with hr; subst hk hr; exact p1.1
   | 2, hk, hr => injection hk with hk; injection hr with hr; subst hk hr; exact p2.1
   | t + 3, hk, hr => cases hk
 have Hmk := hide hmk
 have Hnw := hide hnw
 have Hsh := hide hsh
 have g0 : (n : Int) ≠ 0 := by omega
 have g0' : ((n : Int) == 0) = false := by simpa using g0
 have g1 : ¬ ((n : Int) > 12) := by omega
 have g1' : ¬ ((12 : Int) < n) := by omega
 have H4 := hide h4
 have h7' : ¬ ((x.tot 3 : Int) > 7) := by omega
 have H7 := hide h7'
 clear hr hx p0 p1 p2 q0 q1 q2 hst hks hmk hnw hsh hw h4 h7 h7' hi0 jz0 jz1 jz2
 go_enter Tryz.func7, Tryz.ntmps7
 go_wp2_with fail
 obtain ⟨w1, hw1⟩ : ∃ W : World, W = (w.alloc (.cells #[x.sl 0, x.sl 1, x.sl 2] 25)).alloc (.cells #[.slice none 0 0, .slice none 0 0, .slice none 0 0, .slice none 0 0, .map none, .slice none 0 0, .int .i64 0, .slice none 0 0, .slice none 0 0] 40) := ⟨_, rfl⟩
 have hB1 : Below w.heap.size w w1 := by rw [hw1]; exact ab0
 have hs1 : w.heap.size + 1 + 1 ≤ w1.heap.size := by rw [hw1]; simp
 have hC : BoxC (w.heap.size + 1) [.slice none 0 0, .slice none 0 0, .slice none 0 0, .slice none 0 0, .map none, .slice none 0 0, .int .i64 0, .slice none 0 0, .slice none 0 0] w1 := by rw [hw1]; have q := BoxC.made (w.alloc (.cells #[x.sl 0, x.sl 1, x.sl 2] 25)) #[.slice none 0 0, .slice none 0 0, .slice none 0 0, .slice none 0 0, .map none, .slice none 0 0, .int .i64 0, .slice none 0 0, .slice none 0 0] 40; simpa using q
 have HC := hide hC
 clear hC
 rw [← hw1]
 clear hw1
 go_loopw [15, 6, 7] (fun i m v wr => ∃ (k : Nat) (z : Int), i = .int .i64 z ∧ z = k ∧ k ≤ 3 ∧ m = .int .i64 (x.tot k) ∧ wr.ownsRow w1.heap.size 71 1 v k ((List.range k).map x.cv) ∧ Hid (Below w1.heap.size w1 wr)) (fun i _ _ _ => 3 - (intOf i).toNat)
 case atStart => exact ⟨0, 0, rfl, rfl, by omega, rfl, World.ownsRow_nil _ _ _ _, hide (Below.refl _ _)⟩
 case round =>
  obtain ⟨k, z, rfl, hz, hk, rfl, hown, HB⟩ := hrel
  by_cases hlt : z < 3
  ·have hk3 : k < 3 := by omega
   have hle : ¬ (((x.l k).length : Int) > 4) := by have := H4.out k hk3; omega
   have hle' : ¬ ((4 : Int) < ((x.l k).length : Int)) := by have := H4.out k hk3; omega
   have hsum : ((x.tot k : Nat) : Int) + ((x.l k).length : Int) = ((x.tot (k + 1) : Nat) : Int) := by rw [x.tot_succ]; omega
   have htb : x.tot (k + 1) ≤ 12 := by
    have e1 := H4.out 0 oM
    have e2 := H4.out 1 oM
    have e3 := H4.out 2 oM
    have e4 := x.tot_succ 0
    have e5 := x.tot_succ 1
    have e6 := x.tot_succ 2
    have e7 : x.tot 0 = 0 := rfl
    have h3 : k = 0 ∨ k = 1 ∨ k = 2 := by omega
    rcases h3 with rfl | rfl | rfl <;> simp only [Nat.zero_add, Nat.reduceAdd] at e4 e5 e6 ⊢ <;> omega
   have hwr : IntKind.i64.wrap (((x.tot k : Nat) : Int) + ((x.l k).length : Int)) = ((x.tot (k + 1) : Nat) : Int) := by rw [hsum]; exact IntWalk.i64_in _ oM
   have hsr := HB.out.size
   have Hown := hide hown
   have hB0 : Below w1.heap.size w1 wr := HB.out
   have hB0w : Below w.heap.size w wr := hB1.trans (hB0.mono hB1.size)
   obtain ⟨A9, c9, rfl, hc9, hA9⟩ := own_slice hown
   clear hown HB
   have hidx : (Instr.index 25 (.agg #[x.sl 0, x.sl 1, x.sl 2]) (.int .i64 (k : Int))).run Tryz.prog wr = .ok (.slice (x.A k) (x.l k).length (x.c k)) wr := by
    have h3 : k = 0 ∨ k = 1 ∨ k = 2 := by omega
    rcases h3 with rfl | rfl | rfl <;> rfl
   go_wp2_with (first
    | (at_builtin; (refine wpList_append_own _ rfl _ _ 78 rfl w1.heap.size 71 i0 _ 1 16 Tryz.underlying78 hi.out iz0.out iz1.out iz2.out rfl dM (.slice A9 k c9) k ((List.range k).map x.cv) rfl (own_below Hown.out ab0) ⟨wr.heap.size, 0, none⟩ 1 1 [x.cv k] rfl rfl ?o2 ?o3 ?o4 ?o5 ?o6 ?_)))
   case o2 => exact fun j u h => h
   case o3 => rfl
   case o4 => unfold maxLen; omega
   case o5 => omega
   case o6 => exact (by first | omega | (simp; done) | (simp; omega))
   intro v5 w5 how5 hg5 _
   have hB5 : Below w1.heap.size w1 w5 := below_grown (hB0.trans (ab0)) hg5 (own_below Hown.out ab0) (Nat.le_refl _) (by simp; omega)
   have How5 := hide how5
   have HB5 := hide hB5
   clear how5 hB5 hg5
   go_wp2_with fail
   first
    | exact ⟨⟨k + 1, (k : Int) + 1, by go_num, by omega, by omega, rfl, by rw [List.range_succ, List.map_append]; exact How5.out, HB5⟩, by simp [intOf]; omega⟩
    | ((repeat apply Exists.intro); exact ⟨⟨k + 1, (k : Int) + 1, by go_num, by omega, by omega, rfl, by rw [List.range_succ, List.map_append]; exact How5.out, HB5⟩, by simp [intOf]; omega⟩)
  ·obtain rfl : k = 3 := by omega
   obtain rfl : z = 3 := by omega
   obtain ⟨g9, c9, rfl, hc9, hg9, hr9⟩ := own_some hown oM
   have Hr9 := hide hr9
   have h7' := H7.out
   have h7'' : ¬ ((7 : Int) < ((x.tot 3 : Nat) : Int)) := by omega
   have hBw : Below w.heap.size w wr := hB1.trans (HB.out.mono hB1.size)
   have hzr : w.heap.size + 1 < wr.heap.size := by have := HB.out.size; omega
   have hzr0 : w.heap.size < wr.heap.size := by omega
   clear hown hr9 hz hk hlt
   go_upto_region 15 with (first
    | (go_at_call 21; refine (Hnw.out _ (by first | with_reducible exact hBw | exact ab0)).mono ?_; rintro e w2 ⟨M, rfl, hfr, hMR, hMO, hb2⟩; obtain ⟨hcc2, hff2, hs2⟩ := bC hb2; (try simp at hs2); have hz20 : w.heap.size < w2.heap.size := oM; have hz21 : w.heap.size + 1 < w2.heap.size := oM; have Hfr := hide hfr; have HMR := hide hMR; have HMO := hide hMO; have hb2w : Below w.heap.size w w2 := hBw.trans (hb2.mono oM); clear hfr hMR hMO)
    | (go_at_call 22; refine (Hmk.out M _ c9 _ (HMR.out.below ab0) (by rw [Hfr.out.2.1]; exact Nat.le_refl 3) ((Hr9.out.below (Below.trans (by with_reducible assumption) (Below.mono (B := w2.heap.size) ab0 oM))).more (by first | omega | (simp; done) | (simp; omega))) (by first | with_reducible exact hb2w | exact ab0)).mono ?_; rintro e w3 ⟨V, rfl, hV1, hV2, hV3, hVR, hVO, hb3⟩; obtain ⟨hcc3, hff3, hs3⟩ := bC hb3; (try simp at hs3); have hz30 : w.heap.size < w3.heap.size := oM; have hz31 : w.heap.size + 1 < w3.heap.size := oM; have HV1 := hide hV1; have HV2 := hide hV2; have HV3 := hide hV3; have HVR := hide hVR; have HVO := hide hVO; clear hV1 hV2 hV3 hVR hVO))
   -- BEHIND
   have hsr := HB.out.size
   have hzC : w.heap.size + 1 < w1.heap.size := by omega
   have hBw3 : Below w1.heap.size w1 w3 := HB.out.trans (((hb2.mono oM) : Below w1.heap.size wr w2).trans (((Below.alloc (Below.refl w2.heap.size w2) (Nat.le_refl _) _).trans (hb3.mono sM)).mono oM))
   have oV : V.off (w.heap.size + 1) := HVO.out _ (by simp; omega) (HMO.out _ oM)
   obtain ⟨w4, hw4⟩ : ∃ W : World, W = w3.alloc (.cells #[.slice V.M.mem.pA V.M.mem.hs.length V.M.mem.pc, .slice V.M.mem.vA V.M.mem.vs.length V.M.mem.vc, .slice V.M.ln.fA V.M.ln.first.length V.M.ln.fc, .slice V.M.ln.lA V.M.ln.logs.length V.M.ln.lc, .map V.M.ln.asks, .slice V.M.sA V.M.steps.length V.M.sc, .int .i64 V.M.crashes, .slice V.tA V.ts.length V.tc, .slice V.sA V.ss.length V.sc] 40) := ⟨_, rfl⟩
   have hB34 : Below w3.heap.size w3 w4 := by rw [hw4]; exact Below.alloc (Below.refl _ _) (Nat.le_refl _) _
   have hBw4 : Below w1.heap.size w1 w4 := hBw3.trans (hB34.mono hBw3.size)
   have c0 := (hBw4.cell (p := ⟨w.heap.size + 1, 0, none⟩) hzC).trans (HC.out.at (j := 0) rfl)
   have c1 := (hBw4.cell (p := ⟨w.heap.size + 1, 1, none⟩) hzC).trans (HC.out.at (j := 1) rfl)
   have c2 := (hBw4.cell (p := ⟨w.heap.size + 1, 2, none⟩) hzC).trans (HC.out.at (j := 2) rfl)
   have c3 := (hBw4.cell (p := ⟨w.heap.size + 1, 3, none⟩) hzC).trans (HC.out.at (j := 3) rfl)
   have c4 := (hBw4.cell (p := ⟨w.heap.size + 1, 4, none⟩) hzC).trans (HC.out.at (j := 4) rfl)
   have c5 := (hBw4.cell (p := ⟨w.heap.size + 1, 5, none⟩) hzC).trans (HC.out.at (j := 5) rfl)
   have c6 := (hBw4.cell (p := ⟨w.heap.size + 1, 6, none⟩) hzC).trans (HC.out.at (j := 6) rfl)
   have c7 := (hBw4.cell (p := ⟨w.heap.size + 1, 7, none⟩) hzC).trans (HC.out.at (j := 7) rfl)
   have c8 := (hBw4.cell (p := ⟨w.heap.size + 1, 8, none⟩) hzC).trans (HC.out.at (j := 8) rfl)
   have fz2 : ∀ o, w4.frozen? ⟨w.heap.size + 1, o, none⟩ = false := fun o => (hBw4.frozen (p := ⟨w.heap.size + 1, o, none⟩) hzC).trans (HC.out.2.1 o)
   have hobv : w4.heap[w3.heap.size]? = some (.cells #[.slice V.M.mem.pA V.M.mem.hs.length V.M.mem.pc, .slice V.M.mem.vA V.M.mem.vs.length V.M.mem.vc, .slice V.M.ln.fA V.M.ln.first.length V.M.ln.fc, .slice V.M.ln.lA V.M.ln.logs.length V.M.ln.lc, .map V.M.ln.asks, .slice V.M.sA V.M.steps.length V.M.sc, .int .i64 V.M.crashes, .slice V.tA V.ts.length V.tc, .slice V.sA V.ss.length V.sc] 40 (0, 0)) := by rw [hw4]; exact heap_new _ _ rfl
   have d0 : w4.cell? ⟨w3.heap.size, 0, none⟩ = some (.slice V.M.mem.pA V.M.mem.hs.length V.M.mem.pc) := by simp [World.cell?, hobv]
   have d1 : w4.cell? ⟨w3.heap.size, 1, none⟩ = some (.slice V.M.mem.vA V.M.mem.vs.length V.M.mem.vc) := by simp [World.cell?, hobv]
   have d2 : w4.cell? ⟨w3.heap.size, 2, none⟩ = some (.slice V.M.ln.fA V.M.ln.first.length V.M.ln.fc) := by simp [World.cell?, hobv]
   have d3 : w4.cell? ⟨w3.heap.size, 3, none⟩ = some (.slice V.M.ln.lA V.M.ln.logs.length V.M.ln.lc) := by simp [World.cell?, hobv]
   have d4 : w4.cell? ⟨w3.heap.size, 4, none⟩ = some (.map V.M.ln.asks) := by simp [World.cell?, hobv]
   have d5 : w4.cell? ⟨w3.heap.size, 5, none⟩ = some (.slice V.M.sA V.M.steps.length V.M.sc) := by simp [World.cell?, hobv]
   have d6 : w4.cell? ⟨w3.heap.size, 6, none⟩ = some (.int .i64 V.M.crashes) := by simp [World.cell?, hobv]
   have d7 : w4.cell? ⟨w3.heap.size, 7, none⟩ = some (.slice V.tA V.ts.length V.tc) := by simp [World.cell?, hobv]
   have d8 : w4.cell? ⟨w3.heap.size, 8, none⟩ = some (.slice V.sA V.ss.length V.sc) := by simp [World.cell?, hobv]
   have hB4 : Below w.heap.size w w4 := hB1.trans (hBw4.mono hB1.size)
   have HR4 := hide (HVR.out.below hB34)
   have hz4 : w3.heap.size ≠ w.heap.size + 1 := by omega
   rw [← hw4]
   clear hw4 hobv hBw3 hBw4 hB34 hb2 hb3 hcc2 hff2 hcc3 hff3 hB1 hBw hb2w
   go_wp2_with fail
   have HZ := hide ((WorldV.R.set (WorldV.R.set (WorldV.R.set (WorldV.R.set (WorldV.R.set (WorldV.R.set (WorldV.R.set (WorldV.R.set (WorldV.R.set HR4.out oV (.of c0) (.slice V.M.mem.pA V.M.mem.hs.length V.M.mem.pc)) oV (.set (.of c1) _) (.slice V.M.mem.vA V.M.mem.vs.length V.M.mem.vc)) oV (.set (.set (.of c2) _) _) (.slice V.M.ln.fA V.M.ln.first.length V.M.ln.fc)) oV (.set (.set (.set (.of c3) _) _) _) (.slice V.M.ln.lA V.M.ln.logs.length V.M.ln.lc)) oV (.set (.set (.set (.set (.of c4) _) _) _) _) (.map V.M.ln.asks)) oV (.set (.set (.set (.set (.set (.of c5) _) _) _) _) _) (.slice V.M.sA V.M.steps.length V.M.sc)) oV (.set (.set (.set (.set (.set (.set (.of c6) _) _) _) _) _) _) (.int .i64 V.M.crashes)) oV (.set (.set (.set (.set (.set (.set (.set (.of c7) _) _) _) _) _) _) _) (.slice V.tA V.ts.length V.tc)) oV (.set (.set (.set (.set (.set (.set (.set (.set (.of c8) _) _) _) _) _) _) _) _) (.slice V.sA V.ss.length V.sc)))
   have HBB := hide ((Below.setCell (Below.setCell (Below.setCell (Below.setCell (Below.setCell (Below.setCell (Below.setCell (Below.setCell (Below.setCell hB4 (p := ⟨w.heap.size + 1, 0, none⟩) (by show w.heap.size ≤ w.heap.size + 1; omega) (.slice V.M.mem.pA V.M.mem.hs.length V.M.mem.pc)) (p := ⟨w.heap.size + 1, 1, none⟩) (by show w.heap.size ≤ w.heap.size + 1; omega) (.slice V.M.mem.vA V.M.mem.vs.length V.M.mem.vc)) (p := ⟨w.heap.size + 1, 2, none⟩) (by show w.heap.size ≤ w.heap.size + 1; omega) (.slice V.M.ln.fA V.M.ln.first.length V.M.ln.fc)) (p := ⟨w.heap.size + 1, 3, none⟩) (by show w.heap.size ≤ w.heap.size + 1; omega) (.slice V.M.ln.lA V.M.ln.logs.length V.M.ln.lc)) (p := ⟨w.heap.size + 1, 4, none⟩) (by show w.heap.size ≤ w.heap.size + 1; omega) (.map V.M.ln.asks)) (p := ⟨w.heap.size + 1, 5, none⟩) (by show w.heap.size ≤ w.heap.size + 1; omega) (.slice V.M.sA V.M.steps.length V.M.sc)) (p := ⟨w.heap.size + 1, 6, none⟩) (by show w.heap.size ≤ w.heap.size + 1; omega) (.int .i64 V.M.crashes)) (p := ⟨w.heap.size + 1, 7, none⟩) (by show w.heap.size ≤ w.heap.size + 1; omega) (.slice V.tA V.ts.length V.tc)) (p := ⟨w.heap.size + 1, 8, none⟩) (by show w.heap.size ≤ w.heap.size + 1; omega) (.slice V.sA V.ss.length V.sc)))
   refine bodyPost_ret (v := .tuple #[(.agg #[.slice ((V).M).mem.pA ((V).M).mem.hs.length ((V).M).mem.pc, .slice ((V).M).mem.vA ((V).M).mem.vs.length ((V).M).mem.vc, .slice ((V).M).ln.fA ((V).M).ln.first.length ((V).M).ln.fc, .slice ((V).M).ln.lA ((V).M).ln.logs.length ((V).M).ln.lc, .map ((V).M).ln.asks, .slice ((V).M).sA ((V).M).steps.length ((V).M).sc, .int .i64 ((V).M).crashes, .slice (V).tA (V).ts.length (V).tc, .slice (V).sA (V).ss.length (V).sc]), .bool true]) (by simp [results, Tryz.results7, go_sem]; (try go_simp)) rfl ⟨V, rfl, Hsh.out V (by rw [HV1.out]; exact Hfr.out) HV2.out HV3.out, ?_, ?_⟩
   ·with_reducible exact HZ.out
   ·with_reducible exact HBB.out
structure MW.In (L th n : Nat) (q : MW) : Prop where
 hs : q.hs.length = L
 vs : q.vs.length = th
 hl : ∀ l ∈ q.hs, (0 < l.length ∧ l.length ≤ n + 1) ∧ ∀ p ∈ l, p.1.okW ∧ (0 ≤ p.2.1 ∧ p.2.1 ≤ (th : Int)) ∧ ∀ z, 0 ≤ p.2.2 z ∧ p.2.2 z ≤ (n : Int)
 vl : ∀ f ∈ q.vs, ∀ z, 0 ≤ f z ∧ f z ≤ (n : Int)
 lg : q.logs.length = (L + 7) / 8
 lgl : ∀ g ∈ q.logs, (0 ≤ g.1 ∧ g.1 ≤ (n : Int)) ∧ g.2.length ≤ n
 ak : ∀ t z, q.ak t z ≤ (n : Int)
theorem MW.In.fit {L th n : Nat} {q : MW} (h : q.In L th n) (h1 : 0 < L ∧ L ≤ 4096) (h2 : 0 < th ∧ th ≤ 8) (h3 : n ≤ 999) : q.Fit := by
 have e1 := h.hs
 have e2 := h.vs
 refine ⟨by omega, by omega, fun l hl => ?_, fun f hf z => ?_, by rw [h.lg, e1], fun g hg => ?_, fun t z => by have := h.ak t z; omega⟩
 ·obtain ⟨g1, g2⟩ := h.hl l hl
  refine ⟨by omega, fun p hp => ?_⟩
  obtain ⟨p1, p2, p3⟩ := g2 p hp
  exact ⟨p1, by omega, fun z => by have := p3 z; omega⟩
 ·have := h.vl f hf z
  omega
 ·have := h.lgl g hg
  omega
theorem withF_in {f : Int → Int} {n : Nat} {k i : Int} (hf : ∀ z, 0 ≤ f z ∧ f z ≤ (n : Int)) (h0 : 0 ≤ i) (h1 : i ≤ ((n + 1 : Nat) : Int)) : ∀ z, 0 ≤ withF f k i z ∧ withF f k i z ≤ ((n + 1 : Nat) : Int) := by
 intro z
 have h2 := hf z
 have h3 := hf k
 unfold withF upd
 split
 ·omega
 ·show 0 ≤ (if z = k then i else f z) ∧ (if z = k then i else f z) ≤ ((n + 1 : Nat) : Int)
  split
  ·omega
  ·omega
theorem joinF_in {f g : Int → Int} {n : Int} (hf : ∀ z, 0 ≤ f z ∧ f z ≤ n) (hg : ∀ z, 0 ≤ g z ∧ g z ≤ n) : ∀ z, 0 ≤ joinF f g z ∧ joinF f g z ≤ n := by
 intro z
 have h1 := hf z
 have h2 := hg z
 unfold joinF
 omega
theorem MW.In.up {L th n : Nat} {q : MW} (h : q.In L th n) : q.In L th (n + 1) := ⟨h.hs, h.vs, fun l hl => by
 obtain ⟨⟨u1, u2⟩, u3⟩ := h.hl l hl
 exact ⟨by omega, fun p hp => ⟨(u3 p hp).1, (u3 p hp).2.1, fun z => by have := (u3 p hp).2.2 z; omega⟩⟩, fun f hf z => by have := h.vl f hf z; omega, h.lg, fun g hg => by have := h.lgl g hg; omega, fun t z => by have := h.ak t z; omega⟩
theorem MW.In.see {L th n t : Nat} {q : MW} {f : Int → Int} (h : q.In L th n) (hf : ∀ z, 0 ≤ f z ∧ f z ≤ (n : Int)) : (q.seen t f).In L th n :=
 ⟨h.hs, by rw [← h.vs]; exact List.length_set, h.hl, fun g hg => by
  rcases List.mem_or_eq_of_mem_set hg with hm | rfl
  ·exact h.vl g hm
  ·exact hf, h.lg, h.lgl, h.ak⟩
theorem MW.In.write {L th n t k : Nat} {q : MW} {l : List Msg} {f fm : Int → Int} {x : W3} {lg : Lg} (h : q.In L th n) (ht : t < th) (hl : q.hs[k]? = some l) (hlg : q.logs[k / 8]? = some lg) (hf : ∀ z, 0 ≤ f z ∧ f z ≤ ((n + 1 : Nat) : Int)) (hm : ∀ z, 0 ≤ fm z ∧ fm z ≤ ((n + 1 : Nat) : Int)) (hx : x.okW) : (q.wrote t k l f fm x lg).In L th (n + 1) := by
 have u := h.up
 refine ⟨by rw [← h.hs]; exact List.length_set, by rw [← h.vs]; exact List.length_set, fun l' hl' => ?_, fun g hg => ?_, by rw [← h.lg]; exact List.length_set, fun g hg => ?_, u.ak⟩
 ·rcases List.mem_or_eq_of_mem_set hl' with h1 | rfl
  ·exact u.hl l' h1
  ·obtain ⟨⟨l0, l1⟩, hp⟩ := h.hl _ (List.mem_of_getElem? hl)
   refine ⟨by rw [List.length_append]; simp only [List.length_cons, List.length_nil]; omega, fun p hp2 => ?_⟩
   rcases List.mem_append.1 hp2 with hp3 | hp3
   ·exact (u.hl _ (List.mem_of_getElem? hl)).2 p hp3
   ·rw [List.mem_singleton] at hp3
    subst hp3
    exact ⟨hx, by show (0 : Int) ≤ (t : Int) + 1 ∧ (t : Int) + 1 ≤ th; omega, hm⟩
 ·rcases List.mem_or_eq_of_mem_set hg with h1 | rfl
  ·exact u.vl g h1
  ·exact hf
 ·rcases List.mem_or_eq_of_mem_set hg with h1 | rfl
  ·exact u.lgl g h1
  ·have hg3 := h.lgl _ (List.mem_of_getElem? hlg)
   refine ⟨by show (0 : Int) ≤ lg.1 ∧ lg.1 ≤ _; omega, ?_⟩
   show (lg.2 ++ [_]).length ≤ n + 1
   rw [List.length_append]
   simp only [List.length_cons, List.length_nil]
   omega
theorem okW0 : (⟨0, 0, 0⟩ : W3).okW := by unfold W3.okW; decide
theorem doq_in {L th n : Nat} {q : MW} {t : Nat} {a : ActV} {c : Int} (h : q.In L th n) (hn : a.new.okW) (ht : t < th) : (q.doq t a c).1.In L th (n + 1) ∧ (q.doq t a c).2.1.okW := by
 have u := h.up
 cases hgb : goodB q.hs.length a.op a.at_ with
 | false => rw [doq_bad hgb]; exact ⟨u, okW0⟩
 | true =>
  obtain ⟨h0, h8, hat⟩ := goodB_iff.1 hgb
  have e1 := h.hs
  have e2 := h.vs
  by_cases o0 : a.op = 0
  ·rw [doq_rest hgb o0]; exact ⟨u, okW0⟩
  by_cases o8 : a.op = 8
  ·rw [doq_sync hgb o8]
   refine ⟨⟨h.hs, h.vs, u.hl, u.vl, by rw [← h.lg]; simp [syncQ], fun g hg => ?_, fun t' z => ?_⟩, okW0⟩
   ·obtain ⟨i, hi⟩ := List.mem_iff_getElem?.1 hg
    have hi' : (syncQ (q.ak t) q.logs)[i]? = some g := hi
    unfold syncQ at hi'
    rw [List.getElem?_mapIdx, Option.map_eq_some_iff] at hi'
    obtain ⟨g0, hg0, rfl⟩ := hi'
    have b1 := h.lgl g0 (List.mem_of_getElem? hg0)
    have b2 := h.ak t i
    show (0 ≤ max g0.1 (q.ak t i) ∧ max g0.1 (q.ak t i) ≤ _) ∧ g0.2.length ≤ _
    omega
   ·show askZ q.ak t t' z ≤ _
    have := h.ak t' z
    unfold askZ
    split
    ·show (0 : Int) ≤ ((n + 1 : Nat) : Int)
     omega
    ·omega
  obtain ⟨k, hk⟩ : ∃ k : Nat, a.at_.toNat = k := ⟨_, rfl⟩
  have hkl : k < q.hs.length := by omega
  have htv : t < q.vs.length := by omega
  have hlgl : k / 8 < q.logs.length := by rw [h.lg]; omega
  have g1 := List.getElem?_eq_getElem hkl
  have g2 := List.getElem?_eq_getElem htv
  have g3 := List.getElem?_eq_getElem hlgl
  obtain ⟨⟨l0, l1⟩, hp⟩ := h.hl _ (List.getElem_mem hkl)
  have hv := h.vl _ (List.getElem_mem htv)
  have hb := hv k
  have hvu : ∀ z, 0 ≤ q.vs[t] z ∧ q.vs[t] z ≤ ((n + 1 : Nat) : Int) := fun z => by have := hv z; omega
  have hmu : ∀ p ∈ q.hs[k], ∀ z, 0 ≤ p.2.2 z ∧ p.2.2 z ≤ ((n + 1 : Nat) : Int) := fun p hp2 z => by have := (hp p hp2).2.2 z; omega
  have hci := choose_in (n := q.hs[k].length) (i := q.vs[t] k) (c := c) l0 hb.1
  obtain ⟨i, hi⟩ : ∃ i : Nat, (chooseL q.hs[k].length (q.vs[t] k) c).toNat = i := ⟨_, rfl⟩
  have hil : i < q.hs[k].length := by omega
  have hgi := List.getElem?_eq_getElem hil
  have hmi := List.getElem_mem hil
  obtain ⟨j, hj⟩ : ∃ j, q.hs[k].length = j + 1 := ⟨q.hs[k].length - 1, by omega⟩
  have hjl : j < q.hs[k].length := by omega
  have hgj := List.getElem?_eq_getElem hjl
  have hmj := List.getElem_mem hjl
  have w0 : ∀ z, 0 ≤ withF (fun _ => 0) k q.hs[k].length z ∧ withF (fun _ => 0) k q.hs[k].length z ≤ ((n + 1 : Nat) : Int) := withF_in (f := fun _ => 0) (fun z => ⟨Int.le_refl 0, by omega⟩) oM oM
  have w1 : ∀ z, 0 ≤ withF q.vs[t] k q.hs[k].length z ∧ withF q.vs[t] k q.hs[k].length z ≤ ((n + 1 : Nat) : Int) := withF_in hv oM oM
  have wj : ∀ z, 0 ≤ joinF (withF q.vs[t] k j) q.hs[k][j].2.2 z ∧ joinF (withF q.vs[t] k j) q.hs[k][j].2.2 z ≤ ((n + 1 : Nat) : Int) := joinF_in (withF_in hv oM oM) (hmu _ hmj)
  have wj0 : ∀ z, 0 ≤ joinF (withF q.vs[t] k j) q.hs[k][j].2.2 z ∧ joinF (withF q.vs[t] k j) q.hs[k][j].2.2 z ≤ ((n : Nat) : Int) := joinF_in (fun z => by
   have q1 := hv z
   have q2 := hv k
   unfold withF upd
   split
   ·omega
   ·show 0 ≤ (if z = k then (j : Int) else q.vs[t] z) ∧ (if z = k then (j : Int) else q.vs[t] z) ≤ (n : Int)
    split <;> omega) (fun z => (hp _ hmj).2.2 z)
  by_cases o1 : a.op = 1
  ·rw [doq_load hgb o1 hk g1 g2 hi hgi]; exact ⟨u.see (withF_in hv oM oM), (hp _ hmi).1⟩
  by_cases o2 : a.op = 2
  ·rw [doq_acq hgb o2 hk g1 g2 hi hgi]; exact ⟨u.see (joinF_in (withF_in hv oM oM) (hmu _ hmi)), (hp _ hmi).1⟩
  by_cases o5 : a.op = 5
  ·rw [doq_look hgb o5 hk g1 g2 hj hgj]; exact ⟨u.see wj, (hp _ hmj).1⟩
  by_cases o3 : a.op = 3
  ·rw [doq_store hgb o3 hk g1 g2 g3]; exact ⟨h.write ht g1 g3 w1 w0 hn, okW0⟩
  by_cases o4 : a.op = 4
  ·rw [doq_release hgb o4 hk g1 g2 g3]; exact ⟨h.write ht g1 g3 w1 w1 hn, okW0⟩
  by_cases o7 : a.op = 7
  ·rw [doq_flush hgb o7 hk g3]
   refine ⟨⟨h.hs, h.vs, u.hl, u.vl, h.lg, u.lgl, fun t' z => ?_⟩, okW0⟩
   show askP q.ak t ((k : Int) / 8) (q.logs[k / 8]).2.length t' z ≤ _
   have b1 := h.ak t' z
   have b2 := (h.lgl _ (List.getElem_mem hlgl)).2
   have b3 := h.ak t z
   unfold askP
   split
   ·show (if z = (k : Int) / 8 then ((q.logs[k / 8]).2.length : Int) else q.ak t z) ≤ ((n + 1 : Nat) : Int)
    split <;> omega
   ·omega
  ·have o6 : a.op = 6 := by omega
   rw [doq_swap hgb o6 hk g1 g2 g3 hj hgj]
   split
   ·have ws := withF_in (k := (k : Int)) (i := ((j + 1 : Nat) : Int)) wj0 oM oM
    exact ⟨h.write ht g1 g3 ws ws hn, (hp _ hmj).1⟩
   ·exact ⟨u.see wj, (hp _ hmj).1⟩
structure PW.In (L th n : Nat) (P : PW) : Prop where
 q : P.q.In L th n
 rg : P.rows.length = P.gots.length
 rs : P.ss.length = P.rows.length
 rt : P.rows.length = th
 gl : ∀ l ∈ P.gots, l.length ≤ n ∧ ∀ g ∈ l, (W3.mk g.v g.r g.f).okW
 rows : ∀ r ∈ P.rows, (r.l.length ≤ 100 ∧ r.i ≤ r.l.length) ∧ ∀ a ∈ r.l, (actP a).new.okW
theorem nx_in {L th n t : Nat} {P : PW} {a : AS} {c : Int} (h : P.In L th n) (ha : P.act t = some a) : (P.nx t a c).In L th (n + 1) := by
 obtain ⟨_, r, h1, h2⟩ := act_some ha
 have hr := h.rows r (List.mem_of_getElem? h1)
 have hac := hr.2 a (List.mem_of_getElem? h2)
 have ht : t < th := by rw [← h.rt]; exact (List.getElem?_eq_some_iff.1 h1).1
 obtain ⟨q1, q2⟩ := doq_in (c := c) h.q hac ht
 have hi := (List.getElem?_eq_some_iff.1 h2).1
 refine ⟨q1, ?_, ?_, ?_, fun l hl => ?_, fun r' hr' => ?_⟩
 ·show (P.rows.modify _ _).length = (P.gots.modify _ _).length
  rw [List.length_modify, List.length_modify]
  exact h.rg
 ·show P.ss.length = (P.rows.modify _ _).length
  rw [List.length_modify]
  exact h.rs
 ·show (P.rows.modify _ _).length = th
  rw [List.length_modify]
  exact h.rt
 ·obtain ⟨j, hj⟩ := List.mem_iff_getElem?.1 hl
  have hj' : (P.gots.modify t (fun gl => gl ++ [gotP (P.q.doq t (actP a) c)]))[j]? = some l := hj
  by_cases e : t = j
  ·rw [← e, mod_at] at hj'
   obtain ⟨gl, hgl, rfl⟩ := Option.map_eq_some_iff.1 hj'
   obtain ⟨u1, u2⟩ := h.gl gl (List.mem_of_getElem? hgl)
   refine ⟨by rw [List.length_append]; simp only [List.length_cons, List.length_nil]; omega, fun g hg => ?_⟩
   rcases List.mem_append.1 hg with hg | hg
   ·exact u2 g hg
   ·rw [List.mem_singleton] at hg
    subst hg
    exact q2
  ·rw [mod_ne _ e] at hj'
   obtain ⟨u1, u2⟩ := h.gl l (List.mem_of_getElem? hj')
   exact ⟨by omega, u2⟩
 ·obtain ⟨j, hj⟩ := List.mem_iff_getElem?.1 hr'
  have hj' : (P.rows.modify t RowP.nx)[j]? = some r' := hj
  by_cases e : t = j
  ·rw [← e, mod_at, h1] at hj'
   injection hj' with hj'
   subst hj'
   exact ⟨⟨hr.1.1, by show r.i + 1 ≤ r.l.length; omega⟩, hr.2⟩
  ·rw [mod_ne _ e] at hj'
   exact h.rows r' (List.mem_of_getElem? hj')
theorem next_in {L th n : Nat} {P : PW} {s : Nat × Nat} (h : P.In L th n) (hs : s.2 < P.ch s.1) : (P.next s).In L th (n + 1) := by
 obtain ⟨a, h1, h2⟩ := step_parts hs
 rw [h2]
 exact nx_in h h1
theorem PW.In.fit {L th n : Nat} {P : PW} (h : P.In L th n) (h1 : 0 < L ∧ L ≤ 4096) (h2 : 0 < th ∧ th ≤ 8) (h3 : n ≤ 999) (hk : P.keyP.length ≤ 140737488355328) (ho : P.outP.length ≤ 140737488355328) : P.Fit :=
 ⟨h.q.fit h1 h2 h3, h.rg, h.rs, by rw [h.rt, h.q.vs]; exact Nat.le_refl _, fun l hl => ⟨by have := (h.gl l hl).1; omega, (h.gl l hl).2⟩, hk, ho⟩
theorem PW0_in {ws : List W3} {x : ActsV} (hw : ∀ y ∈ ws, y.okW) (hx : ∀ k, k < 3 → (x.l k).length ≤ 100 ∧ ∀ a ∈ x.l k, (actP a).new.okW) : (PW0 ws x).In ws.length 3 0 := by
 refine ⟨⟨by simp [PW0], by simp [PW0], fun l hl => ?_, fun f hf => ?_, by simp [PW0], fun g hg => ?_, fun _ _ => Int.le_refl 0⟩, by simp [PW0], by simp [PW0], by simp [PW0], fun l hl => ?_, fun r hr => ?_⟩
 ·obtain ⟨y, hy, rfl⟩ := List.mem_map.1 (show l ∈ ws.map (fun y => [(y, (0 : Int), fun _ => (0 : Int))]) from hl)
  refine ⟨by simp, fun p hp => ?_⟩
  rw [List.mem_singleton] at hp
  subst hp
  exact ⟨hw y hy, ⟨Int.le_refl 0, by show (0 : Int) ≤ ((3 : Nat) : Int); decide⟩, fun z => ⟨Int.le_refl 0, Int.le_refl 0⟩⟩
 ·obtain rfl := List.eq_of_mem_replicate (show f ∈ List.replicate 3 (fun _ => (0 : Int)) from hf)
  exact fun z => ⟨Int.le_refl 0, Int.le_refl 0⟩
 ·obtain rfl := List.eq_of_mem_replicate (show g ∈ List.replicate ((ws.length + 7) / 8) ((0 : Int), ([] : List (Int × W3))) from hg)
  exact ⟨⟨Int.le_refl 0, Int.le_refl 0⟩, Nat.le_refl 0⟩
 ·obtain rfl := List.eq_of_mem_replicate (show l ∈ List.replicate 3 ([] : List GS) from hl)
  exact ⟨Nat.le_refl 0, fun g hg => by cases hg⟩
 ·obtain ⟨k, hk, rfl⟩ := List.mem_map.1 (show r ∈ (List.range 3).map (fun k => (⟨x.A k, x.c k, x.l k, 0⟩ : RowP)) from hr)
  obtain ⟨u1, u2⟩ := hx k (List.mem_range.1 hk)
  exact ⟨⟨u1, Nat.zero_le _⟩, u2⟩
theorem flatM_le {α : Type} {f : α → List UInt8} {M : Nat} : ∀ {l : List α}, (∀ x ∈ l, (f x).length ≤ M) → (l.flatMap f).length ≤ l.length * M
 | [], _ => by simp
 | x :: l, h => by
  have h1 := flatM_le (l := l) (fun y hy => h y (List.mem_cons_of_mem _ hy))
  have h2 := h x List.mem_cons_self
  rw [List.flatMap_cons, List.length_append, List.length_cons, Nat.succ_mul]
  omega
theorem flatN_le {α : Type} {f : α → List UInt8} {N M : Nat} {l : List α} (hl : l.length ≤ N) (h : ∀ x ∈ l, (f x).length ≤ M) : (l.flatMap f).length ≤ N * M := Nat.le_trans (flatM_le h) (Nat.mul_le_mul_right M hl)
def inI (z : Int) : Prop := -9223372036854775808 ≤ z ∧ z ≤ 9223372036854775807
theorem nums_le {N : Nat} {zs : List Int} (hl : zs.length ≤ N) (h : ∀ z ∈ zs, inI z) : (numsT zs).length ≤ N * 22 := by
 unfold numsT
 refine flatN_le hl (fun z hz => ?_)
 have := Lib.itoa_length_le z (h z hz).1 (h z hz).2
 rw [List.length_append]
 simp only [List.length_cons, List.length_nil]
 omega
theorem raw_le {x : W3} (h : x.okW) : (rawT x).length ≤ 66 := by
 obtain ⟨h1, h2, h3⟩ := h
 refine nums_le (N := 3) (Nat.le_refl 3) (fun z hz => ?_)
 simp only [List.mem_cons, List.not_mem_nil, or_false] at hz
 unfold inI
 rcases hz with rfl | rfl | rfl <;> omega
theorem views_le {L : Nat} (hL : L ≤ 4096) {f : Int → Int} (h : ∀ z, 0 ≤ f z ∧ f z ≤ 999) : (viewsT L f).length ≤ 180225 := by
 unfold viewsT
 rw [List.length_append]
 have hl : (locsF L f).length ≤ 4096 := by
  unfold locsF
  have := List.length_filter_le (fun z => decide (f z ≠ 0)) ((List.range L).map (fun (i : Nat) => (i : Int)))
  rw [List.length_map, List.length_range] at this
  omega
 have := flatN_le (f := fun z => numsT [z, f z]) (M := 44) hl (fun z hz => by
  have hz2 := (locsF_mem.1 hz).1
  have hz3 := h z
  refine nums_le (N := 2) (Nat.le_refl 2) (fun y hy => ?_)
  simp only [List.mem_cons, List.not_mem_nil, or_false] at hy
  unfold inI
  rcases hy with rfl | rfl <;> omega)
 simp only [List.length_cons, List.length_nil]
 omega
theorem one_le {z : Int} (h : inI z) : (numsT [z]).length ≤ 22 := nums_le (N := 1) (Nat.le_refl 1) (fun y hy => by rw [List.mem_singleton] at hy; subst hy; exact h)
section
variable {L th n : Nat} {P : PW}
theorem key_short (h : P.In L th n) (hL : L ≤ 4096) (ht : th ≤ 8) (hn : n ≤ 999) : P.keyP.length ≤ 140737488355328 := by
 have e1 := h.q.hs
 have e2 := h.q.vs
 have hm : (P.q.hs.flatMap (fun l => l.flatMap (msgQ P.q.hs.length) ++ [47])).length ≤ 4096 * 200000001 := flatN_le oM (fun l hl => by
  obtain ⟨⟨l0, l1⟩, hp⟩ := h.q.hl l hl
  have q := flatN_le (f := msgQ P.q.hs.length) (N := 1000) (M := 200000) (l := l) oM (fun p hp2 => by
   obtain ⟨p1, p2, p3⟩ := hp p hp2
   unfold msgQ
   rw [List.length_append, List.length_append]
   have r1 := raw_le p1
   have r2 := one_le (z := p.2.1) ⟨by omega, by omega⟩
   have r3 := views_le (L := P.q.hs.length) oM (f := p.2.2) (fun z => by have := p3 z; omega)
   omega)
  rw [List.length_append]
  simp only [List.length_cons, List.length_nil]
  omega)
 have hv : (P.q.vs.flatMap (viewsT P.q.hs.length)).length ≤ 8 * 180225 := flatN_le oM (fun f hf => views_le oM (fun z => by have := h.q.vl f hf z; omega))
 have hlg : P.q.lnT.length ≤ 512 * 220 := by
  unfold MW.lnT
  refine flatN_le (by rw [List.length_zipIdx, h.q.lg]; omega) (fun p hp => ?_)
  have hp1 : p.1 ∈ P.q.logs := by
   obtain ⟨g, i⟩ := p
   rw [List.mem_zipIdx_iff_getElem?] at hp
   exact List.mem_of_getElem? hp
  have hb := h.q.lgl p.1 hp1
  unfold lineQ
  rw [List.length_append]
  have r1 := nums_le (N := 2) (zs := [p.1.1, (p.1.2.length : Int)]) (Nat.le_refl 2) (fun y hy => by
   simp only [List.mem_cons, List.not_mem_nil, or_false] at hy
   unfold inI
   rcases hy with rfl | rfl <;> omega)
  have r2 := flatN_le (f := syncQT P.q.ak p.2 p.1) (N := 8) (M := 22) (l := List.range P.q.vs.length) (by rw [List.length_range]; omega) (fun j _ => by
   have := h.q.ak j (p.2 : Int)
   exact one_le ⟨by omega, by omega⟩)
  omega
 have ht2 : (((P.rows.zip P.ss).zip P.gots).flatMap taskQ).length ≤ 8 * 88000 := by
  have e3 := h.rt
  refine flatN_le (by rw [List.length_zip, List.length_zip]; omega) (fun p hp => ?_)
  obtain ⟨g1, g2⟩ := h.gl p.2 (List.of_mem_zip hp).2
  unfold taskQ
  rw [List.length_append, List.length_append]
  have hb : ∀ b, inI (bitI b) := fun b => by unfold inI bitI; cases b <;> decide
  have r1 := nums_le (N := 2) (zs := [bitI p.1.1.done, bitI p.1.2]) (Nat.le_refl 2) (fun y hy => by
   simp only [List.mem_cons, List.not_mem_nil, or_false] at hy
   rcases hy with rfl | rfl <;> exact hb _)
  have r2 := flatN_le (f := gotT) (N := 999) (M := 88) (l := p.2) oM (fun g hg => by
   have r3 := raw_le (g2 g hg)
   unfold gotT
   rw [List.length_append]
   have r4 := one_le (hb g.k)
   omega)
  simp only [List.length_cons, List.length_nil]
  omega
 unfold PW.keyP MW.memT
 simp only [List.length_append, List.length_cons, List.length_nil]
 omega
theorem itoa_le {z : Int} (h : inI z) : (Lib.itoa z).length ≤ 21 := Lib.itoa_length_le z h.1 h.2
theorem text_le {x : W3} (h : x.okW) : (textW x).length ≤ 100 := by
 obtain ⟨h1, h2, h3⟩ := h
 unfold textW
 have w1 : inI (whoP x.f).1 := by unfold inI whoP; split <;> simp only <;> omega
 have w2 : inI (whoP x.f).2 := by unfold inI whoP; split <;> simp only <;> omega
 have r1 := itoa_le (z := x.v) h1
 have r2 := itoa_le (z := x.r) ⟨by omega, by omega⟩
 have r3 := itoa_le w1
 have r4 := itoa_le w2
 split
 ·simp
 ·split <;> split <;> simp only [List.length_append, List.length_cons, List.length_nil] <;> omega
theorem joinT_le {xs : List (List UInt8)} {N : Nat} (hl : xs.length ≤ N) (h : ∀ x ∈ xs, x.length ≤ 100) : (Lib.join xs [32]).length ≤ N * 101 := by
 cases xs with
 | nil => simp [Lib.join_nil]
 | cons x r =>
  rw [Lib.join_length]
  have hs : Lib.lens (x :: r) ≤ (x :: r).length * 100 := by
   generalize x :: r = ys at h
   induction ys with
   | nil => simp [Lib.lens]
   | cons y ys ih =>
    have h1 := ih (fun z hz => h z (List.mem_cons_of_mem _ hz))
    have h2 := h y List.mem_cons_self
    have e : Lib.lens (y :: ys) = y.length + Lib.lens ys := by simp [Lib.lens]
    rw [e, List.length_cons, Nat.succ_mul]
    omega
  have hN := Nat.mul_le_mul_right 101 hl
  simp only [List.length_cons, List.length_nil] at hs hN ⊢
  omega
theorem out_short (h : P.In L th n) (hL : L ≤ 4096) (ht : th ≤ 8) (hn : n ≤ 999) (hf : P.q.Fit) : P.outP.length ≤ 140737488355328 := by
 have e1 := h.q.hs
 have e3 := h.rt
 have e4 := h.rg
 unfold PW.outP outT
 rw [List.length_append]
 have r1 := joinT_le (xs := P.q.words.map textW) (N := 4096) (by rw [List.length_map]; unfold MW.words; rw [List.length_map]; omega) (fun x hx => by
  obtain ⟨y, hy, rfl⟩ := List.mem_map.1 hx
  exact text_le (words_okW hf y hy))
 have r2 := flatN_le (f := taskO textW) (N := 8) (M := 110000) (l := P.gots) oM (fun l hl => by
  obtain ⟨g1, g2⟩ := h.gl l hl
  unfold taskO
  rw [List.length_append]
  have r3 := flatN_le (f := gotO textW) (N := 999) (M := 102) (l := l) oM (fun g hg => by
   have := text_le (g2 g hg)
   unfold gotO bangT
   rw [List.length_append, List.length_append]
   split <;> simp only [List.length_cons, List.length_nil] <;> omega)
  simp only [List.length_cons, List.length_nil]
  omega)
 omega
theorem PW.In.fits (h : P.In L th n) (h1 : 0 < L ∧ L ≤ 4096) (h2 : 0 < th ∧ th ≤ 8) (h3 : n ≤ 999) : P.Fit := h.fit h1 h2 h3 (key_short h h1.2 h2.2 h3) (out_short h h1.2 h2.2 h3 (h.q.fit h1 h2 h3))
end
def awX (A : Nat → Option Addr) (c : Nat → Nat) : ActsV := ⟨A, c, fun k => if k = 0 then [⟨3, 0, 0, 0, 0, 1, 0, 0⟩] else if k = 1 then [⟨1, 0, 0, 0, 0, 0, 0, 0⟩] else []⟩
def aw0 (A : Nat → Option Addr) (c : Nat → Nat) : PW := PW0 [⟨0, 0, 0⟩] (awX A c)
def awOk (A : Nat → Option Addr) (c : Nat → Nat) (P : PW) : Prop := P = aw0 A c ∨ P = (aw0 A c).next (0, 0) ∨ P = ((aw0 A c).next (0, 0)).next (1, 0) ∨ P = ((aw0 A c).next (0, 0)).next (1, 1) ∨ P = (aw0 A c).next (1, 0) ∨ P = ((aw0 A c).next (1, 0)).next (0, 0)
theorem aw_in0 (A : Nat → Option Addr) (c : Nat → Nat) : (aw0 A c).In 1 3 0 := by
 refine PW0_in (ws := [⟨0, 0, 0⟩]) (fun y hy => ?_) (fun k hk => ?_)
 ·rw [List.mem_singleton] at hy
  subst hy
  exact okW0
 ·have h3 : k = 0 ∨ k = 1 ∨ k = 2 := by omega
  rcases h3 with rfl | rfl | rfl
  ·refine ⟨by show (1 : Nat) ≤ 100; decide, fun a ha => ?_⟩
   rw [show (awX A c).l 0 = [⟨3, 0, 0, 0, 0, 1, 0, 0⟩] from rfl, List.mem_singleton] at ha
   subst ha
   show (⟨1, 0, 0⟩ : W3).okW
   unfold W3.okW
   decide
  ·refine ⟨by show (1 : Nat) ≤ 100; decide, fun a ha => ?_⟩
   rw [show (awX A c).l 1 = [⟨1, 0, 0, 0, 0, 0, 0, 0⟩] from rfl, List.mem_singleton] at ha
   subst ha
   exact okW0
  ·exact ⟨by show (0 : Nat) ≤ 100; decide, fun a ha => by cases ha⟩
theorem aw_cs0 (A : Nat → Option Addr) (c : Nat → Nat) : (aw0 A c).cs = [1, 1, 0] := by kernel_rfl
theorem aw_cs1 (A : Nat → Option Addr) (c : Nat → Nat) : ((aw0 A c).next (0, 0)).cs = [0, 2, 0] := by kernel_rfl
theorem aw_cs2 (A : Nat → Option Addr) (c : Nat → Nat) : (((aw0 A c).next (0, 0)).next (1, 0)).cs = [0, 0, 0] := by kernel_rfl
theorem aw_cs3 (A : Nat → Option Addr) (c : Nat → Nat) : (((aw0 A c).next (0, 0)).next (1, 1)).cs = [0, 0, 0] := by kernel_rfl
theorem aw_cs4 (A : Nat → Option Addr) (c : Nat → Nat) : ((aw0 A c).next (1, 0)).cs = [1, 0, 0] := by kernel_rfl
theorem aw_cs5 (A : Nat → Option Addr) (c : Nat → Nat) : (((aw0 A c).next (1, 0)).next (0, 0)).cs = [0, 0, 0] := by kernel_rfl
theorem aw_next (A : Nat → Option Addr) (c : Nat → Nat) (P : PW) (s : Nat × Nat) (h : awOk A c P) (hs : s ∈ stpTo P.cs P.cs.length) : awOk A c (P.next s) := by
 have e0 : stpTo [1, 1, 0] 3 = [(0, 0), (1, 0)] := by decide
 have e1 : stpTo [0, 2, 0] 3 = [(1, 0), (1, 1)] := by decide
 have e2 : stpTo [0, 0, 0] 3 = [] := by decide
 have e4 : stpTo [1, 0, 0] 3 = [(0, 0)] := by decide
 rcases h with rfl | rfl | rfl | rfl | rfl | rfl
 ·rw [aw_cs0] at hs
  rw [show ([1, 1, 0] : List Nat).length = 3 from rfl, e0] at hs
  simp only [List.mem_cons, List.not_mem_nil, or_false] at hs
  rcases hs with rfl | rfl
  ·exact .inr (.inl rfl)
  ·exact .inr (.inr (.inr (.inr (.inl rfl))))
 ·rw [aw_cs1] at hs
  rw [show ([0, 2, 0] : List Nat).length = 3 from rfl, e1] at hs
  simp only [List.mem_cons, List.not_mem_nil, or_false] at hs
  rcases hs with rfl | rfl
  ·exact .inr (.inr (.inl rfl))
  ·exact .inr (.inr (.inr (.inl rfl)))
 ·rw [aw_cs2] at hs
  rw [show ([0, 0, 0] : List Nat).length = 3 from rfl, e2] at hs
  cases hs
 ·rw [aw_cs3] at hs
  rw [show ([0, 0, 0] : List Nat).length = 3 from rfl, e2] at hs
  cases hs
 ·rw [aw_cs4] at hs
  rw [show ([1, 0, 0] : List Nat).length = 3 from rfl, e4] at hs
  simp only [List.mem_cons, List.not_mem_nil, or_false] at hs
  subst hs
  exact .inr (.inr (.inr (.inr (.inr rfl))))
 ·rw [aw_cs5] at hs
  rw [show ([0, 0, 0] : List Nat).length = 3 from rfl, e2] at hs
  cases hs
def shortK (P : PW) : Bool := P.keyP.length ≤ 1000 && P.outP.length ≤ 1000
theorem shortK_le {P : PW} (h : shortK P = true) : P.keyP.length ≤ 140737488355328 ∧ P.outP.length ≤ 140737488355328 := by
 unfold shortK at h
 rw [Bool.and_eq_true, decide_eq_true_eq, decide_eq_true_eq] at h
 omega
theorem aw_short0 (A : Nat → Option Addr) (c : Nat → Nat) : shortK (aw0 A c) = true := by kernel_rfl
theorem aw_short1 (A : Nat → Option Addr) (c : Nat → Nat) : shortK ((aw0 A c).next (0, 0)) = true := by kernel_rfl
theorem aw_short2 (A : Nat → Option Addr) (c : Nat → Nat) : shortK (((aw0 A c).next (0, 0)).next (1, 0)) = true := by kernel_rfl
theorem aw_short3 (A : Nat → Option Addr) (c : Nat → Nat) : shortK (((aw0 A c).next (0, 0)).next (1, 1)) = true := by kernel_rfl
theorem aw_short4 (A : Nat → Option Addr) (c : Nat → Nat) : shortK ((aw0 A c).next (1, 0)) = true := by kernel_rfl
theorem aw_short5 (A : Nat → Option Addr) (c : Nat → Nat) : shortK (((aw0 A c).next (1, 0)).next (0, 0)) = true := by kernel_rfl
theorem aw_in (A : Nat → Option Addr) (c : Nat → Nat) (P : PW) (h : awOk A c P) : ∃ n, n ≤ 2 ∧ P.In 1 3 n ∧ shortK P = true := by
 have h0 := aw_in0 A c
 have ch : ∀ (P : PW) (t : Nat), P.ch t = P.cs.getD t 0 := fun P t => (cs_getD P t).symm
 have h1 : ((aw0 A c).next (0, 0)).In 1 3 1 := next_in h0 (by rw [ch, aw_cs0]; decide)
 have h4 : ((aw0 A c).next (1, 0)).In 1 3 1 := next_in h0 (by rw [ch, aw_cs0]; decide)
 rcases h with rfl | rfl | rfl | rfl | rfl | rfl
 ·exact ⟨0, by omega, h0, aw_short0 A c⟩
 ·exact ⟨1, by omega, h1, aw_short1 A c⟩
 ·exact ⟨2, by omega, next_in h1 (by rw [ch, aw_cs1]; decide), aw_short2 A c⟩
 ·exact ⟨2, by omega, next_in h1 (by rw [ch, aw_cs1]; decide), aw_short3 A c⟩
 ·exact ⟨1, by omega, h4, aw_short4 A c⟩
 ·exact ⟨2, by omega, next_in h4 (by rw [ch, aw_cs4]; decide), aw_short5 A c⟩
theorem next_ss (P : PW) (s : Nat × Nat) : (P.next s).ss = P.ss := by
 unfold PW.next
 split <;> rfl
theorem aw_ss (A : Nat → Option Addr) (c : Nat → Nat) (P : PW) (h : awOk A c P) : P.ss = List.replicate 3 false := by
 have h0 : (aw0 A c).ss = List.replicate 3 false := rfl
 rcases h with rfl | rfl | rfl | rfl | rfl | rfl <;> simp only [next_ss, h0]
theorem aw_fit (A : Nat → Option Addr) (c : Nat → Nat) (P : PW) (h : awOk A c P) : P.Fit ∧ (∀ r ∈ P.rows, r.l.length ≤ 100 ∧ r.i ≤ r.l.length) ∧ ∀ b ∈ P.ss, b = false := by
 obtain ⟨n, hn, hi, hs⟩ := aw_in A c P h
 obtain ⟨k1, k2⟩ := shortK_le hs
 refine ⟨hi.fit oM oM oM k1 k2, fun r hr => (hi.rows r hr).1, fun b hb => ?_⟩
 rw [aw_ss A c P h] at hb
 exact List.eq_of_mem_replicate hb
theorem aw_ok (A : Nat → Option Addr) (c : Nat → Nat) (B0 : Nat) (hB : 0 < B0) : ExplOK (rowsE (awOk A c) B0) B0 := rows_ok _ B0 hB (aw_fit A c) (aw_next A c)
def awF : DataW Unit := .map [(.string [49, 59, 32, 48, 59, 32, 48, 59], .lit (.bool true)), (.string [49, 59, 32, 48, 59, 32, 49, 59], .lit (.bool true))]
def isAw : Option (DataW Unit × DataW Unit × Bool) → Bool
 | some (S, .map [(.string k1, .lit (.bool true)), (.string k2, .lit (.bool true))], true) => Maps.size S == 5 && k1 == [49, 59, 32, 48, 59, 32, 48, 59] && k2 == [49, 59, 32, 48, 59, 32, 49, 59]
 | _ => false
theorem isAw_some {r : Option (DataW Unit × DataW Unit × Bool)} (h : isAw r = true) : ∃ S, r = some (S, awF, true) := by
 unfold isAw at h
 split at h
 ·rename_i S k1 k2
  rw [Bool.and_eq_true, Bool.and_eq_true, beq_iff_eq, beq_iff_eq, beq_iff_eq] at h
  obtain ⟨⟨_, rfl⟩, rfl⟩ := h
  exact ⟨S, rfl⟩
 ·cases h
theorem aw_all (A : Nat → Option Addr) (c : Nat → Nat) (B0 : Nat) : ∃ S, allP (rowsE (awOk A c) B0) 100 4 (aw0 A c) (.map []) (.map []) = some (S, awF, true) := isAw_some kR
theorem aw_sorted {ss : List (List UInt8)} (h : ss.Perm (strKeys awF)) : ss.mergeSort (fun x y => decide (x ≤ y)) = [[49, 59, 32, 48, 59, 32, 48, 59], [49, 59, 32, 48, 59, 32, 49, 59]] ∧ ss.length = 2 := by
 refine ⟨(mergeSort_of_perm h).trans (List.mergeSort_of_pairwise (l := [[49, 59, 32, 48, 59, 32, 48, 59], [49, 59, 32, 48, 59, 32, 49, 59]]) (List.pairwise_cons.2 ⟨fun b hb => by rw [List.mem_singleton.1 hb]; decide, List.pairwise_singleton _ _⟩)), ?_⟩
 rw [h.length_eq]
 rfl
def awStr : List ByteArray := [⟨#[49, 59, 32, 48, 59, 32, 48, 59]⟩, ⟨#[49, 59, 32, 48, 59, 32, 49, 59]⟩]
theorem aw_cells {W : World} {B g : Nat} (h : Rd W B 1 (some ⟨g, 0, none⟩) 2 ([[49, 59, 32, 48, 59, 32, 48, 59], [49, 59, 32, 48, 59, 32, 49, 59]].map encStr)) : ∀ j, j < awStr.length → W.cell? ⟨g, 0 + j, none⟩ = some (.string (awStr.getD j ByteArray.empty)) := by
 intro j hj
 obtain ⟨b, off, e, _, hc⟩ := h.2 dM
 cases e
 match j, hj with
 | 0, _ => exact hc 0 _ rfl
 | 1, _ => exact hc 1 _ rfl
 | j + 2, hj => exact absurd hj (by show ¬ (j + 2 < 2); omega)
theorem aw_cells2 (W : World) (t : TypeId) : ∀ j, j < awStr.length → (W.alloc (.cells #[.string ⟨#[49, 59, 32, 48, 59, 32, 48, 59]⟩, .string ⟨#[49, 59, 32, 48, 59, 32, 49, 59]⟩] t)).cell? ⟨W.heap.size, 0 + j, none⟩ = some (.string (awStr.getD j ByteArray.empty)) := by
 intro j hj
 have q := BoxC.made W #[.string ⟨#[49, 59, 32, 48, 59, 32, 48, 59]⟩, .string ⟨#[49, 59, 32, 48, 59, 32, 49, 59]⟩] t
 match j, hj with
 | 0, _ => exact q.1 0 _ rfl
 | 1, _ => exact q.1 1 _ rfl
 | j + 2, hj => exact absurd hj (by show ¬ (j + 2 < 2); omega)
theorem awake59_any (w : World) (ht : Tab w) (hg : 0 < w.heap.size) : Calls Tryz.prog 8 #[] w (Ret (.bool true) w) := by
 obtain ⟨w1, hw1⟩ : ∃ W : World, W = (((w.alloc (.cells #[.int .i64 0, .int .u32 0, .int .u32 0] 66)).alloc (.cells #[.int .i64 3, .int .i64 0, .int .i64 0, .int .u32 0, .int .u32 0, .int .i64 1, .int .u32 0, .int .u32 0] 68)).alloc (.cells #[.int .i64 1, .int .i64 0, .int .i64 0, .int .u32 0, .int .u32 0, .int .i64 0, .int .u32 0, .int .u32 0] 68)) := ⟨_, rfl⟩
 have hB1 : Below w.heap.size w w1 := by rw [hw1]; exact ab0
 have hs1 : w1.heap.size = w.heap.size + 1 + 1 + 1 := by rw [hw1]; simp
 have q0 := BoxC.made w #[.int .i64 0, .int .u32 0, .int .u32 0] 66
 have q1 := BoxC.made (w.alloc (.cells #[.int .i64 0, .int .u32 0, .int .u32 0] 66)) #[.int .i64 3, .int .i64 0, .int .i64 0, .int .u32 0, .int .u32 0, .int .i64 1, .int .u32 0, .int .u32 0] 68
 have q2 := BoxC.made ((w.alloc (.cells #[.int .i64 0, .int .u32 0, .int .u32 0] 66)).alloc (.cells #[.int .i64 3, .int .i64 0, .int .i64 0, .int .u32 0, .int .u32 0, .int .i64 1, .int .u32 0, .int .u32 0] 68)) #[.int .i64 1, .int .i64 0, .int .i64 0, .int .u32 0, .int .u32 0, .int .i64 0, .int .u32 0, .int .u32 0] 68
 have hx : (awX (fun k => if k = 0 then some ⟨w.heap.size + 1, 0, none⟩ else if k = 1 then some ⟨w.heap.size + 1 + 1, 0, none⟩ else none) (fun k => if k = 2 then 0 else 1)).R w1 w1.heap.size := by
  intro k hk
  have h3 : k = 0 ∨ k = 1 ∨ k = 2 := by omega
  rcases h3 with rfl | rfl | rfl
  ·refine ⟨rfl, fun _ => ⟨w.heap.size + 1, 0, rfl, by omega, fun j u hu => ?_⟩⟩
   have q := (q1.below (w' := w1) (by rw [hw1]; exact ab0)).1 j u hu
   simpa using q
  ·refine ⟨rfl, fun _ => ⟨w.heap.size + 1 + 1, 0, rfl, by omega, fun j u hu => ?_⟩⟩
   have q := (q2.below (w' := w1) (by rw [hw1]; exact ab0)).1 j u hu
   simpa using q
  ·exact Rd.nil _ _ _ _
 have hr : Rd w1 w1.heap.size 3 (some ⟨w.heap.size, 0, none⟩) 1 ([(⟨0, 0, 0⟩ : W3)].flatMap w3c) := by
  refine ⟨rfl, fun _ => ⟨w.heap.size, 0, rfl, by omega, fun j u hu => ?_⟩⟩
  have q := (q0.below (w' := w1) (by rw [hw1]; exact ab0)).1 j u hu
  rw [Nat.zero_add]
  exact q
 obtain ⟨A, hA⟩ : ∃ A : Nat → Option Addr, A = (fun k => if k = 0 then some ⟨w.heap.size + 1, 0, none⟩ else if k = 1 then some ⟨w.heap.size + 1 + 1, 0, none⟩ else none) := ⟨_, rfl⟩
 obtain ⟨c, hc⟩ : ∃ c : Nat → Nat, c = (fun k => if k = 2 then 0 else 1) := ⟨_, rfl⟩
 rw [← hA, ← hc] at hx
 have hwok : Calls Tryz.prog 7 #[.slice (some ⟨w.heap.size, 0, none⟩) 1 1, .agg #[.slice (some ⟨w.heap.size + 1, 0, none⟩) 1 1, .slice (some ⟨w.heap.size + 1 + 1, 0, none⟩) 1 1, .slice none 0 0]] w1 fun e w' => ∃ V : WorldV, e = .returned (.tuple #[(.agg #[.slice ((V).M).mem.pA ((V).M).mem.hs.length ((V).M).mem.pc, .slice ((V).M).mem.vA ((V).M).mem.vs.length ((V).M).mem.vc, .slice ((V).M).ln.fA ((V).M).ln.first.length ((V).M).ln.fc, .slice ((V).M).ln.lA ((V).M).ln.logs.length ((V).M).ln.lc, .map ((V).M).ln.asks, .slice ((V).M).sA ((V).M).steps.length ((V).M).sc, .int .i64 ((V).M).crashes, .slice (V).tA (V).ts.length (V).tc, .slice (V).sA (V).ss.length (V).sc]), .bool true]) ∧ Shows V (aw0 A c) ∧ V.R w' ∧ Below w1.heap.size w1 w' := by
  have q := world_ok (some ⟨w.heap.size, 0, none⟩) 1 1 [⟨0, 0, 0⟩] (awX A c) w1 rfl hr hx (fun k hk => by
   have h3 : k = 0 ∨ k = 1 ∨ k = 2 := by omega
   rcases h3 with rfl | rfl | rfl
   ·show (1 : Nat) ≤ 4; decide
   ·show (1 : Nat) ≤ 4; decide
   ·show (0 : Nat) ≤ 4; decide) (by show (2 : Nat) ≤ 7; decide) dM dM
  have e0 : (awX A c).sl 0 = .slice (some ⟨w.heap.size + 1, 0, none⟩) 1 1 := by rw [hA, hc]; rfl
  have e1 : (awX A c).sl 1 = .slice (some ⟨w.heap.size + 1 + 1, 0, none⟩) 1 1 := by rw [hA, hc]; rfl
  have e2 : (awX A c).sl 2 = .slice none 0 0 := by rw [hA, hc]; rfl
  rw [e0, e1, e2] at q
  exact q
 obtain ⟨S, hall⟩ := aw_all A c w1.heap.size
 have hall2 := fun (V : WorldV) (W : World) (hS : Shows V (aw0 A c)) (hR : V.R W) (hW : Below w1.heap.size w1 W) => ex_All (rowsE (awOk A c) w1.heap.size) w1.heap.size (aw_ok A c _ oM) 100 dM dM 4 (aw0 A c) S awF V W hall hR ⟨hS, by have := map_len hS.1.1; rw [this]; show (1 : Nat) ≤ 4096; decide⟩ ⟨.inl rfl, (fun r hr => by
   obtain ⟨k, hk, rfl⟩ := List.mem_map.1 (show r ∈ (List.range 3).map (fun k => (⟨A k, c k, (awX A c).l k, 0⟩ : RowP)) from hr)
   exact (hx k (List.mem_range.1 hk)).below hW), (ht.below hB1 hg).below hW oM, hW.size⟩ hW.size
 have Hwok := hide hwok
 have Hall := hide hall2
 have HB1 := hide hB1
 clear q0 q1 q2 hx hr hA hc hwok hall hall2 hB1 ht hg
 go_enter Tryz.func8, Tryz.ntmps8
 go_wp2_with (first
  | (rw [← hw1]; go_at_call 7; refine Hwok.out.mono ?_; rintro e w2 ⟨V, rfl, hS, hR, hb2⟩; have HS := hide hS; have HR := hide hR; have Hb2 := hide hb2; have hs2 := hb2.size; clear hS hR hb2)
  | (go_at_call 10; refine (Hall.out V _ HS.out (HR.out.below (Below.alloc (Below.refl _ _) (Nat.le_refl _) _)) (Hb2.out.trans (Below.alloc (Below.refl _ _) hs2 _))).mono ?_; rintro e w3 ⟨v, ss, rfl, hp, hrow, hb3⟩; have Hp := hide hp; have Hrow := hide hrow; have hs3 := hb3.size; (try simp at hs3); obtain ⟨hms, hsl⟩ := aw_sorted hp; rw [hms, hsl] at hrow; obtain ⟨g3, c3, rfl, hc3, hg3, hrd⟩ := own_some hrow dM; have Hrd := hide hrd; have Hb3 := hide hb3; clear hp hrow hb3 hms hsl hrd)
  | (go_at_call 11; refine (Tryz.slices_Equal_string g3 0 2 c3 w3.heap.size 0 2 2 awStr awStr _ (Nat.le_refl 2) (Nat.le_refl 2) dM dM (aw_cells (Hrd.out.below (Below.alloc (Below.refl _ _) (Nat.le_refl _) _))) (aw_cells2 w3 _)).mono ?_; rintro e w4 ⟨rfl, q, rfl⟩; rw [decide_eq_true (rfl : awStr.take 2 = awStr.take 2)]))
 have hs1' := HB1.out.size
 have hB2 : Below w.heap.size w w2 := HB1.out.trans (Hb2.out.mono hs1')
 have hB3 : Below w.heap.size w w3 := hB2.trans (((Below.alloc (Below.refl w2.heap.size w2) (Nat.le_refl _) _).trans (Hb3.out.mono sM)).mono hB2.size)
 have hs3' := hB3.size
 clear hw1
 go_ret
 exact ⟨rfl, ab0⟩
end Go.Proofs.YtnnmenmifphadaaGreatDoor
