/- Package task: the world's Step. -/
import Derived.Test.YtnnmenmifphadaaGreatDoorU31
set_option linter.unusedSimpArgs false
set_option linter.unusedVariables false
set_option maxRecDepth 100000
set_option maxHeartbeats 40000000
namespace Go.Proofs.YtnnmenmifphadaaGreatDoor
open Go.RowKit Go.Maps
theorem world_Step_no (V : WorldV) (t : Nat) (ch : Int) (w : World) (hR : V.R w) (hth : 0 < V.M.mem.vs.length) (htk : ∀ W, V.R W → Calls Tryz.prog 29 #[(woV V), .int .i64 ((t : Int) + 1)] W (Ret (.bool false) W)) :
  Calls Tryz.prog 13 #[(woV V), .agg #[.int .i64 0, .int .i64 ((t : Int) + 1), .int .i64 ch]] w fun e w' => e = .returned (.tuple #[(woV V), .bool false]) ∧ V.R w' ∧ Below w.heap.size w w' := by
 have hd := fun W => world_dead V W hth
 have Hd := hide hd
 have Htk := hide htk
 have HR := hide hR
 clear hd htk hR
 go_enter Tryz.func13, Tryz.ntmps13
 go_wp2_with (first
  | (go_at_call 27; refine (Hd.out _).mono ?_; rintro e w1 ⟨rfl, hb1⟩; obtain ⟨hcc1, hff1, hs1⟩ := bC hb1; (try simp at hs1); have hzw10 : w.heap.size < w1.heap.size := oM; have hzw11 : w.heap.size + 1 < w1.heap.size := oM; have hzw12 : w.heap.size + 1 + 1 < w1.heap.size := oM)
  | (go_at_call 29; refine (Htk.out _ (HR.out.below ab0)).mono ?_; rintro e w2 ⟨rfl, hb2⟩; obtain ⟨hcc2, hff2, hs2⟩ := bC hb2; (try simp at hs2); have hzw20 : w.heap.size < w2.heap.size := oM; have hzw21 : w.heap.size + 1 < w2.heap.size := oM; have hzw22 : w.heap.size + 1 + 1 < w2.heap.size := oM))
 have r0 : w2.cell? ⟨w.heap.size + 1 + 1, 0, none⟩ = some (.slice none 0 0) := by go_simp
 have r1 : w2.cell? ⟨w.heap.size + 1 + 1, 1, none⟩ = some (.slice none 0 0) := by go_simp
 have r2 : w2.cell? ⟨w.heap.size + 1 + 1, 2, none⟩ = some (.slice none 0 0) := by go_simp
 have r3 : w2.cell? ⟨w.heap.size + 1 + 1, 3, none⟩ = some (.slice none 0 0) := by go_simp
 have r4 : w2.cell? ⟨w.heap.size + 1 + 1, 4, none⟩ = some (.map none) := by go_simp
 have r5 : w2.cell? ⟨w.heap.size + 1 + 1, 5, none⟩ = some (.slice none 0 0) := by go_simp
 have r6 : w2.cell? ⟨w.heap.size + 1 + 1, 6, none⟩ = some (.int .i64 0) := by go_simp
 have r7 : w2.cell? ⟨w.heap.size + 1 + 1, 7, none⟩ = some (.slice none 0 0) := by go_simp
 have r8 : w2.cell? ⟨w.heap.size + 1 + 1, 8, none⟩ = some (.slice none 0 0) := by go_simp
 have hBW : Below w.heap.size w w2 := ab0
 have oV := WorldV.off_new HR.out (C := w.heap.size + 1 + 1) oM
 have HZ := hide (WorldV.R.set (WorldV.R.set (WorldV.R.set (WorldV.R.set (WorldV.R.set (WorldV.R.set (WorldV.R.set (WorldV.R.set (WorldV.R.set (HR.out.below hBW) oV (.of r0) (.slice V.M.mem.pA V.M.mem.hs.length V.M.mem.pc)) oV (.set (.of r1) _) (.slice V.M.mem.vA V.M.mem.vs.length V.M.mem.vc)) oV (.set (.set (.of r2) _) _) (.slice V.M.ln.fA V.M.ln.first.length V.M.ln.fc)) oV (.set (.set (.set (.of r3) _) _) _) (.slice V.M.ln.lA V.M.ln.logs.length V.M.ln.lc)) oV (.set (.set (.set (.set (.of r4) _) _) _) _) (.map V.M.ln.asks)) oV (.set (.set (.set (.set (.set (.of r5) _) _) _) _) _) (.slice V.M.sA V.M.steps.length V.M.sc)) oV (.set (.set (.set (.set (.set (.set (.of r6) _) _) _) _) _) _) (.int .i64 V.M.crashes)) oV (.set (.set (.set (.set (.set (.set (.set (.of r7) _) _) _) _) _) _) _) (.slice V.tA V.ts.length V.tc)) oV (.set (.set (.set (.set (.set (.set (.set (.set (.of r8) _) _) _) _) _) _) _) _) (.slice V.sA V.ss.length V.sc))
 have HB := hide (Below.setCell (Below.setCell (Below.setCell (Below.setCell (Below.setCell (Below.setCell (Below.setCell (Below.setCell (Below.setCell hBW (p := ⟨w.heap.size + 1 + 1, 0, none⟩) ab4 (.slice V.M.mem.pA V.M.mem.hs.length V.M.mem.pc)) (p := ⟨w.heap.size + 1 + 1, 1, none⟩) ab4 (.slice V.M.mem.vA V.M.mem.vs.length V.M.mem.vc)) (p := ⟨w.heap.size + 1 + 1, 2, none⟩) ab4 (.slice V.M.ln.fA V.M.ln.first.length V.M.ln.fc)) (p := ⟨w.heap.size + 1 + 1, 3, none⟩) ab4 (.slice V.M.ln.lA V.M.ln.logs.length V.M.ln.lc)) (p := ⟨w.heap.size + 1 + 1, 4, none⟩) ab4 (.map V.M.ln.asks)) (p := ⟨w.heap.size + 1 + 1, 5, none⟩) ab4 (.slice V.M.sA V.M.steps.length V.M.sc)) (p := ⟨w.heap.size + 1 + 1, 6, none⟩) ab4 (.int .i64 V.M.crashes)) (p := ⟨w.heap.size + 1 + 1, 7, none⟩) ab4 (.slice V.tA V.ts.length V.tc)) (p := ⟨w.heap.size + 1 + 1, 8, none⟩) ab4 (.slice V.sA V.ss.length V.sc))
 refine bodyPost_ret (v := .tuple #[.agg #[.slice V.M.mem.pA V.M.mem.hs.length V.M.mem.pc, .slice V.M.mem.vA V.M.mem.vs.length V.M.mem.vc, .slice V.M.ln.fA V.M.ln.first.length V.M.ln.fc, .slice V.M.ln.lA V.M.ln.logs.length V.M.ln.lc, .map V.M.ln.asks, .slice V.M.sA V.M.steps.length V.M.sc, .int .i64 V.M.crashes, .slice V.tA V.ts.length V.tc, .slice V.sA V.ss.length V.sc], .bool false]) (by simp [results, Tryz.results13, go_sem]; (try go_simp)) rfl ⟨rfl, ?_, ?_⟩
 ·with_reducible exact HZ.out
 ·with_reducible exact HB.out
theorem world_Step_go (V : WorldV) (t : Nat) (ch : Int) (w : World) (E : WorldV → Prop) (hR : V.R w) (hth : 0 < V.M.mem.vs.length) (htk : ∀ W, V.R W → Calls Tryz.prog 29 #[(woV V), .int .i64 ((t : Int) + 1)] W (Ret (.bool true) W)) (hst : ∀ W, Below w.heap.size w W → V.R W → Calls Tryz.prog 30 #[(woV V), .int .i64 ((t : Int) + 1), .int .i64 ch] W fun e w' => ∃ V2 : WorldV, e = .returned (woV V2) ∧ E V2 ∧ V2.R w' ∧ (∀ C, C < W.heap.size → V.off C → V2.off C) ∧ Below W.heap.size W w') :
  Calls Tryz.prog 13 #[(woV V), .agg #[.int .i64 0, .int .i64 ((t : Int) + 1), .int .i64 ch]] w fun e w' => ∃ V2 : WorldV, e = .returned (.tuple #[(woV V2), .bool true]) ∧ E V2 ∧ V2.R w' ∧ (∀ C, C < w.heap.size → V.off C → V2.off C) ∧ Below w.heap.size w w' := by
 have hd := fun W => world_dead V W hth
 have Hd := hide hd
 have Htk := hide htk
 have Hst := hide hst
 have HR := hide hR
 clear hd htk hR hst
 go_enter Tryz.func13, Tryz.ntmps13
 go_wp2_with (first
  | (go_at_call 27; refine (Hd.out _).mono ?_; rintro e w1 ⟨rfl, hb1⟩; obtain ⟨hcc1, hff1, hs1⟩ := bC hb1; (try simp at hs1); have hzw10 : w.heap.size < w1.heap.size := oM; have hzw11 : w.heap.size + 1 < w1.heap.size := oM; have hzw12 : w.heap.size + 1 + 1 < w1.heap.size := oM)
  | (go_at_call 29; refine (Htk.out _ (HR.out.below ab0)).mono ?_; rintro e w2 ⟨rfl, hb2⟩; obtain ⟨hcc2, hff2, hs2⟩ := bC hb2; (try simp at hs2); have hzw20 : w.heap.size < w2.heap.size := oM; have hzw21 : w.heap.size + 1 < w2.heap.size := oM; have hzw22 : w.heap.size + 1 + 1 < w2.heap.size := oM)
  | (go_at_call 30; refine (Hst.out _ (ab0) (HR.out.below ab0)).mono ?_; rintro e w3 ⟨V2, rfl, hE, hR3, hoff3, hb3⟩; obtain ⟨hcc3, hff3, hs3⟩ := bC hb3; (try simp at hs3); have HE := hide hE; have HR3 := hide hR3; have Hoff3 := hide hoff3; clear hE hR3 hoff3; have hzw30 : w.heap.size < w3.heap.size := oM; have hzw31 : w.heap.size + 1 < w3.heap.size := oM; have hzw32 : w.heap.size + 1 + 1 < w3.heap.size := oM))
 have r0 : w3.cell? ⟨w.heap.size + 1 + 1, 0, none⟩ = some (.slice none 0 0) := by go_simp
 have r1 : w3.cell? ⟨w.heap.size + 1 + 1, 1, none⟩ = some (.slice none 0 0) := by go_simp
 have r2 : w3.cell? ⟨w.heap.size + 1 + 1, 2, none⟩ = some (.slice none 0 0) := by go_simp
 have r3 : w3.cell? ⟨w.heap.size + 1 + 1, 3, none⟩ = some (.slice none 0 0) := by go_simp
 have r4 : w3.cell? ⟨w.heap.size + 1 + 1, 4, none⟩ = some (.map none) := by go_simp
 have r5 : w3.cell? ⟨w.heap.size + 1 + 1, 5, none⟩ = some (.slice none 0 0) := by go_simp
 have r6 : w3.cell? ⟨w.heap.size + 1 + 1, 6, none⟩ = some (.int .i64 0) := by go_simp
 have r7 : w3.cell? ⟨w.heap.size + 1 + 1, 7, none⟩ = some (.slice none 0 0) := by go_simp
 have r8 : w3.cell? ⟨w.heap.size + 1 + 1, 8, none⟩ = some (.slice none 0 0) := by go_simp
 have hBW : Below w.heap.size w w3 := ab0
 have oV := Hoff3.out (w.heap.size + 1 + 1) (by first | omega | (simp; done) | (simp; omega)) (WorldV.off_new HR.out oM)
 have HZ := hide (WorldV.R.set (WorldV.R.set (WorldV.R.set (WorldV.R.set (WorldV.R.set (WorldV.R.set (WorldV.R.set (WorldV.R.set (WorldV.R.set HR3.out oV (.of r0) (.slice V2.M.mem.pA V2.M.mem.hs.length V2.M.mem.pc)) oV (.set (.of r1) _) (.slice V2.M.mem.vA V2.M.mem.vs.length V2.M.mem.vc)) oV (.set (.set (.of r2) _) _) (.slice V2.M.ln.fA V2.M.ln.first.length V2.M.ln.fc)) oV (.set (.set (.set (.of r3) _) _) _) (.slice V2.M.ln.lA V2.M.ln.logs.length V2.M.ln.lc)) oV (.set (.set (.set (.set (.of r4) _) _) _) _) (.map V2.M.ln.asks)) oV (.set (.set (.set (.set (.set (.of r5) _) _) _) _) _) (.slice V2.M.sA V2.M.steps.length V2.M.sc)) oV (.set (.set (.set (.set (.set (.set (.of r6) _) _) _) _) _) _) (.int .i64 V2.M.crashes)) oV (.set (.set (.set (.set (.set (.set (.set (.of r7) _) _) _) _) _) _) _) (.slice V2.tA V2.ts.length V2.tc)) oV (.set (.set (.set (.set (.set (.set (.set (.set (.of r8) _) _) _) _) _) _) _) _) (.slice V2.sA V2.ss.length V2.sc))
 have HB := hide (Below.setCell (Below.setCell (Below.setCell (Below.setCell (Below.setCell (Below.setCell (Below.setCell (Below.setCell (Below.setCell hBW (p := ⟨w.heap.size + 1 + 1, 0, none⟩) ab4 (.slice V2.M.mem.pA V2.M.mem.hs.length V2.M.mem.pc)) (p := ⟨w.heap.size + 1 + 1, 1, none⟩) ab4 (.slice V2.M.mem.vA V2.M.mem.vs.length V2.M.mem.vc)) (p := ⟨w.heap.size + 1 + 1, 2, none⟩) ab4 (.slice V2.M.ln.fA V2.M.ln.first.length V2.M.ln.fc)) (p := ⟨w.heap.size + 1 + 1, 3, none⟩) ab4 (.slice V2.M.ln.lA V2.M.ln.logs.length V2.M.ln.lc)) (p := ⟨w.heap.size + 1 + 1, 4, none⟩) ab4 (.map V2.M.ln.asks)) (p := ⟨w.heap.size + 1 + 1, 5, none⟩) ab4 (.slice V2.M.sA V2.M.steps.length V2.M.sc)) (p := ⟨w.heap.size + 1 + 1, 6, none⟩) ab4 (.int .i64 V2.M.crashes)) (p := ⟨w.heap.size + 1 + 1, 7, none⟩) ab4 (.slice V2.tA V2.ts.length V2.tc)) (p := ⟨w.heap.size + 1 + 1, 8, none⟩) ab4 (.slice V2.sA V2.ss.length V2.sc))
 refine bodyPost_ret (v := .tuple #[.agg #[.slice V2.M.mem.pA V2.M.mem.hs.length V2.M.mem.pc, .slice V2.M.mem.vA V2.M.mem.vs.length V2.M.mem.vc, .slice V2.M.ln.fA V2.M.ln.first.length V2.M.ln.fc, .slice V2.M.ln.lA V2.M.ln.logs.length V2.M.ln.lc, .map V2.M.ln.asks, .slice V2.M.sA V2.M.steps.length V2.M.sc, .int .i64 V2.M.crashes, .slice V2.tA V2.ts.length V2.tc, .slice V2.sA V2.ss.length V2.sc], .bool true]) (by simp [results, Tryz.results13, go_sem]; (try go_simp)) rfl ⟨V2, rfl, HE.out, ?_, (fun C hC h => Hoff3.out C (by first | omega | (simp; done) | (simp; omega)) h), ?_⟩
 ·with_reducible exact HZ.out
 ·with_reducible exact HB.out
theorem info_bool : (Tryz.prog.info? 4).map (fun i => (i.zero, i.size, i.bytes)) = some (some (.bool false), 1, 1) := by kernel_rfl
theorem task_make (M : MachV) (A : Option Addr) (n cap : Nat) (cs : List Value) (ks : List TaskV) (w : World) (hR : M.R w) (hth : n ≤ M.mem.vs.length) (hn1 : 1 ≤ n) (hn2 : n ≤ 100) (hr : Rd w w.heap.size 1 A n cs) (hlk : ks.length = n) (hks : ∀ k ∈ ks, k.ok ∧ k.A = none ∧ k.m = 0 ∧ k.cp = 0 ∧ k.l = [])
   (hstart : ∀ (j : Nat) (c : Value) (k : TaskV) (W : World), cs[j]? = some c → ks[j]? = some k → Below w.heap.size w W → Calls Tryz.prog 55 #[c] W (Ret (tkV k) W)) :
   Calls Tryz.prog 22 #[(maV M), .slice A n cap] w fun e w' => ∃ V : WorldV, e = .returned (.tuple #[(woV V), .int .i64 0]) ∧ V.M = M ∧ V.ts = ks ∧ V.ss = List.replicate n false ∧ V.R w' ∧ (∀ C, C < w.heap.size → M.off C → V.off C) ∧ Below w.heap.size w w' := by
 obtain ⟨i0, hi0, jz0, jz1, jz2⟩ := info_parts info_cT
 have hi := hide hi0
 have iz0 := hide jz0
 have iz1 := hide jz1
 have iz2 := hide jz2
 obtain ⟨i1, hi1, kz0, kz1, kz2⟩ := info_parts info_bool
 have hib := hide hi1
 have ib0 := hide kz0
 have ib1 := hide kz1
 have ib2 := hide kz2
 clear hi0 jz0 jz1 jz2 hi1 kz0 kz1 kz2
 obtain ⟨b, off, eA, hbw, hcw⟩ := hr.2 oM
 subst eA
 have Hcw := hide hcw
 have hcl := hide hr.1
 have hsz := fun W => mach_size M W
 have Hsz := hide hsz
 have Hstart := hide hstart
 have Hks := hide hks
 have HR := hide hR
 have hx0 := toList_madeCells_one (Value.bool false) n
 have Hx0 := hide hx0
 have g1 : ¬ ((n : Int) > (M.mem.vs.length : Int)) := by omega
 have g1' : ¬ ((M.mem.vs.length : Int) < (n : Int)) := by omega
 clear hr hcw hsz hstart hks hR hx0
 go_enter Tryz.func22, Tryz.ntmps22
 go_upto_region 4 with (first
   | (go_at_call 54; refine (Hsz.out _).mono ?_; rintro e w1 ⟨rfl, hb1⟩; obtain ⟨hcc1, hff1, hs1⟩ := bC hb1; (try simp at hs1); have hz10 : w.heap.size < w1.heap.size := oM; have hz11 : w.heap.size + 1 < w1.heap.size := oM))
 have b0 : w1.cell? ⟨w.heap.size, 0, none⟩ = some (.slice M.mem.pA M.mem.hs.length M.mem.pc) := by go_simp
 have b1 : w1.cell? ⟨w.heap.size, 1, none⟩ = some (.slice M.mem.vA M.mem.vs.length M.mem.vc) := by go_simp
 have b2 : w1.cell? ⟨w.heap.size, 2, none⟩ = some (.slice M.ln.fA M.ln.first.length M.ln.fc) := by go_simp
 have b3 : w1.cell? ⟨w.heap.size, 3, none⟩ = some (.slice M.ln.lA M.ln.logs.length M.ln.lc) := by go_simp
 have b4 : w1.cell? ⟨w.heap.size, 4, none⟩ = some (.map M.ln.asks) := by go_simp
 have b5 : w1.cell? ⟨w.heap.size, 5, none⟩ = some (.slice M.sA M.steps.length M.sc) := by go_simp
 have b6 : w1.cell? ⟨w.heap.size, 6, none⟩ = some (.int .i64 M.crashes) := by go_simp
 have r0 : w1.cell? ⟨w.heap.size + 1, 0, none⟩ = some (.slice none 0 0) := by go_simp
 have r1 : w1.cell? ⟨w.heap.size + 1, 1, none⟩ = some (.slice none 0 0) := by go_simp
 have r2 : w1.cell? ⟨w.heap.size + 1, 2, none⟩ = some (.slice none 0 0) := by go_simp
 have r3 : w1.cell? ⟨w.heap.size + 1, 3, none⟩ = some (.slice none 0 0) := by go_simp
 have r4 : w1.cell? ⟨w.heap.size + 1, 4, none⟩ = some (.map none) := by go_simp
 have r5 : w1.cell? ⟨w.heap.size + 1, 5, none⟩ = some (.slice none 0 0) := by go_simp
 have r6 : w1.cell? ⟨w.heap.size + 1, 6, none⟩ = some (.int .i64 0) := by go_simp
 have r7 : w1.cell? ⟨w.heap.size + 1, 7, none⟩ = some (.slice none 0 0) := by go_simp
 have r8 : w1.cell? ⟨w.heap.size + 1, 8, none⟩ = some (.slice none 0 0) := by go_simp
 have f1 : ∀ o, w1.frozen? ⟨w.heap.size + 1, o, none⟩ = false := by intro o; go_simp
 have hBa : Below w.heap.size w w1 := ab0
 clear hcc1 hff1 hb1
 (try rw [show decide (M.mem.vs.length < n) = false by simp; omega])
 go_cut [8] from 21 to 41 (fun s8 wx => ∃ (B8 gb : Nat), s8 = .pointer (some ⟨B8, 0, none⟩) ∧ w1.heap.size ≤ B8 ∧ w1.heap.size ≤ gb ∧ gb ≠ B8 ∧ BoxC B8 [.slice M.mem.pA M.mem.hs.length M.mem.pc, .slice M.mem.vA M.mem.vs.length M.mem.vc, .slice M.ln.fA M.ln.first.length M.ln.fc, .slice M.ln.lA M.ln.logs.length M.ln.lc, .map M.ln.asks, .slice M.sA M.steps.length M.sc, .int .i64 M.crashes, .slice none 0 0, .slice (some ⟨gb, 0, none⟩) n n] wx ∧ Hid (Rd wx wx.heap.size 1 (some ⟨gb, 0, none⟩) n (List.replicate n (.bool false))) ∧ Below w1.heap.size w1 wx)
 case first =>
  refine wp_region_held_drew (S := (fun w' => w'.cell? ⟨w.heap.size, 0, none⟩ = some (.slice M.mem.pA M.mem.hs.length M.mem.pc) ∧ w'.cell? ⟨w.heap.size, 1, none⟩ = some (.slice M.mem.vA M.mem.vs.length M.mem.vc) ∧ w'.cell? ⟨w.heap.size, 2, none⟩ = some (.slice M.ln.fA M.ln.first.length M.ln.fc) ∧ w'.cell? ⟨w.heap.size, 3, none⟩ = some (.slice M.ln.lA M.ln.logs.length M.ln.lc) ∧ w'.cell? ⟨w.heap.size, 4, none⟩ = some (.map M.ln.asks) ∧ w'.cell? ⟨w.heap.size, 5, none⟩ = some (.slice M.sA M.steps.length M.sc) ∧ w'.cell? ⟨w.heap.size, 6, none⟩ = some (.int .i64 M.crashes))) kR ab16 (fun hHeld => ?_)
  refine tq1 0 ?_
  refine tq1 1 ?_
  refine tq1 2 ?_
  refine wR (rs := [3, 5]) ?_
  focus
    refine aI (fun K hK => ?_) (aE fun K hK => ?_)
    focus
     refine wp_make_rows (.tmp 23) (.tmp 23) 38 rfl 4 i1 _ 1 1 Tryz.underlying38 hib.out ib0.out ib1.out ib2.out .i64 .i64 n (by simp [Act.eval, Act.put]) (by simp [Act.eval, Act.put]) oM (by unfold maxLen; omega) (List.replicate n (.bool false)) (by rw [Nat.mul_one]; exact Hx0.out) ?_; intro w2 how2 hb2' hz2; (try simp at hz2); have hb2 : Below _ _ w2 := ab15; have hsw2 := (hb2).size; (try simp at hsw2); obtain ⟨hcc2, hff2⟩ := bcell hb2; have hz20 : w.heap.size < w2.heap.size := oM; have hz21 : w1.heap.size < w2.heap.size := oM
     (try go_simp)
     go_wp2_with fail
     refine oK hK ab16 fun hHeld => ?_
     clear hK K
     refine tq1 4 ?_
     refine wE 5 fun K hK => ?_
     go_simp
     go_wp2_with fail
     refine oK hK ab16 fun hHeld => ?_
     clear hK K
     refine wE 6 fun K hK => ?_
     go_simp
     go_wp2_with fail
     refine oK hK ab16 fun hHeld => ?_
     clear hK K
     refine wD ?_
    rotate_left 1
    focus
     go_simp
     go_wp2_with fail
     refine oK hK ab16 fun hHeld => ?_
     clear hK K
     refine wE 3 fun K hK => ?_
     refine wp_make_rows (.tmp 23) (.tmp 23) 38 rfl 4 i1 _ 1 1 Tryz.underlying38 hib.out ib0.out ib1.out ib2.out .i64 .i64 n (by simp [Act.eval, Act.put]) (by simp [Act.eval, Act.put]) oM (by unfold maxLen; omega) (List.replicate n (.bool false)) (by rw [Nat.mul_one]; exact Hx0.out) ?_; intro w2 how2 hb2' hz2; (try simp at hz2); have hb2 : Below _ _ w2 := ab15; have hsw2 := (hb2).size; (try simp at hsw2); obtain ⟨hcc2, hff2⟩ := bcell hb2; have hz20 : w.heap.size < w2.heap.size := oM; have hz21 : w1.heap.size < w2.heap.size := oM
     (try go_simp)
     go_wp2_with fail
     refine oK hK ab16 fun hHeld => ?_
     clear hK K
     refine tq1 4 ?_
     refine wE 6 fun K hK => ?_
     go_simp
     go_wp2_with fail
     refine oK hK ab16 fun hHeld => ?_
     clear hK K
     refine wD ?_
    rotate_left 1
  all_goals go_wp2_with fail
  all_goals go_meet
  all_goals have how := how2.out
  all_goals (try simp at how)
  all_goals obtain ⟨-, -, hrd2⟩ := own_cap' how
  all_goals have HL := hide hrd2
  all_goals clear how hrd2
  · exact ⟨w2.heap.size, w1.heap.size, rfl, by omega, by omega, by omega, BoxC.made _ _ _, hide ((HL.out.below (Below.alloc (Below.refl _ _) (Nat.le_refl _) _)).more sM), ab0⟩
  · have hbx := (BoxC.store (BoxC.store (BoxC.store (BoxC.store (BoxC.store (BoxC.store (BoxC.store (BoxC.store (BoxC.store ((BoxC.made w1 #[.slice none 0 0, .slice none 0 0, .slice none 0 0, .slice none 0 0, .map none, .slice none 0 0, .int .i64 0, .slice none 0 0, .slice none 0 0] 40).below (w' := w2) (by with_reducible exact hb2)) (o := 0) sM (.slice M.mem.pA M.mem.hs.length M.mem.pc)) (o := 1) sM (.slice M.mem.vA M.mem.vs.length M.mem.vc)) (o := 2) sM (.slice M.ln.fA M.ln.first.length M.ln.fc)) (o := 3) sM (.slice M.ln.lA M.ln.logs.length M.ln.lc)) (o := 4) sM (.map M.ln.asks)) (o := 5) sM (.slice M.sA M.steps.length M.sc)) (o := 6) sM (.int .i64 M.crashes)) (o := 7) sM (.slice none 0 0)) (o := 8) sM (.slice (some ⟨w1.heap.size + 1, 0, none⟩) n n))
    simp only [List.set_cons_zero, List.set_cons_succ] at hbx
    refine ⟨w1.heap.size, w1.heap.size + 1, rfl, by omega, by omega, by omega, ?_, hide (Rd.more (Rd.set_off (C := w1.heap.size) (o := 8) (Rd.set_off (C := w1.heap.size) (o := 7) (Rd.set_off (C := w1.heap.size) (o := 6) (Rd.set_off (C := w1.heap.size) (o := 5) (Rd.set_off (C := w1.heap.size) (o := 4) (Rd.set_off (C := w1.heap.size) (o := 3) (Rd.set_off (C := w1.heap.size) (o := 2) (Rd.set_off (C := w1.heap.size) (o := 1) (Rd.set_off (C := w1.heap.size) (o := 0) HL.out (OffC.at oM) (.slice M.mem.pA M.mem.hs.length M.mem.pc)) (OffC.at oM) (.slice M.mem.vA M.mem.vs.length M.mem.vc)) (OffC.at oM) (.slice M.ln.fA M.ln.first.length M.ln.fc)) (OffC.at oM) (.slice M.ln.lA M.ln.logs.length M.ln.lc)) (OffC.at oM) (.map M.ln.asks)) (OffC.at oM) (.slice M.sA M.steps.length M.sc)) (OffC.at oM) (.int .i64 M.crashes)) (OffC.at oM) (.slice none 0 0)) (OffC.at oM) (.slice (some ⟨w1.heap.size + 1, 0, none⟩) n n)) sM), ab0⟩
    with_reducible exact hbx
 case rest =>
  obtain ⟨B8, gb, rfl, hz8, hzb, hgb, hX, Hrb, hBc⟩ := hcut
  have hsc := hBc.size
  have hBw : Below w.heap.size w wc := hBa.trans (hBc.mono oM)
  have c0 := (hBc.cell (p := ⟨w.heap.size + 1, 0, none⟩) (by show w.heap.size + 1 < w1.heap.size; omega)).trans r0
  have c1 := (hBc.cell (p := ⟨w.heap.size + 1, 1, none⟩) (by show w.heap.size + 1 < w1.heap.size; omega)).trans r1
  have c2 := (hBc.cell (p := ⟨w.heap.size + 1, 2, none⟩) (by show w.heap.size + 1 < w1.heap.size; omega)).trans r2
  have c3 := (hBc.cell (p := ⟨w.heap.size + 1, 3, none⟩) (by show w.heap.size + 1 < w1.heap.size; omega)).trans r3
  have c4 := (hBc.cell (p := ⟨w.heap.size + 1, 4, none⟩) (by show w.heap.size + 1 < w1.heap.size; omega)).trans r4
  have c5 := (hBc.cell (p := ⟨w.heap.size + 1, 5, none⟩) (by show w.heap.size + 1 < w1.heap.size; omega)).trans r5
  have c6 := (hBc.cell (p := ⟨w.heap.size + 1, 6, none⟩) (by show w.heap.size + 1 < w1.heap.size; omega)).trans r6
  have c7 := (hBc.cell (p := ⟨w.heap.size + 1, 7, none⟩) (by show w.heap.size + 1 < w1.heap.size; omega)).trans r7
  have c8 := (hBc.cell (p := ⟨w.heap.size + 1, 8, none⟩) (by show w.heap.size + 1 < w1.heap.size; omega)).trans r8
  have cf : ∀ o, wc.frozen? ⟨w.heap.size + 1, o, none⟩ = false := fun o => (hBc.frozen (p := ⟨w.heap.size + 1, o, none⟩) (by show w.heap.size + 1 < w1.heap.size; omega)).trans (f1 o)
  clear b0 b1 b2 b3 b4 b5 b6 r0 r1 r2 r3 r4 r5 r6 r7 r8 f1
  have h8 : B8 < wc.heap.size := hX.2.2
  have hgl : gb < wc.heap.size := by
    obtain ⟨b', o', e', hb', _⟩ := Hrb.out.2 oM
    injection e' with e'
    injection e' with e' _
    omega
  have HX0 := hide hX
  clear hX
  go_wp2_with fail
  go_loopw [28] (fun i wr => ∃ (k : Nat) (v : Value), i = .int .i64 k ∧ k ≤ n ∧ BoxC B8 [.slice M.mem.pA M.mem.hs.length M.mem.pc, .slice M.mem.vA M.mem.vs.length M.mem.vc, .slice M.ln.fA M.ln.first.length M.ln.fc, .slice M.ln.lA M.ln.logs.length M.ln.lc, .map M.ln.asks, .slice M.sA M.steps.length M.sc, .int .i64 M.crashes, v, .slice (some ⟨gb, 0, none⟩) n n] wr ∧ wr.ownsRow wc.heap.size 75 11 v k ((ks.take k).flatMap taskc) ∧ Hid (Rd wr wr.heap.size 1 (some ⟨gb, 0, none⟩) n (List.replicate n (.bool false))) ∧ Below w1.heap.size w1 wr ∧ wc.heap.size ≤ wr.heap.size ∧ (∀ j, wr.cell? ⟨w.heap.size + 1, j, none⟩ = wc.cell? ⟨w.heap.size + 1, j, none⟩)) (fun i _ => n - (intOf i).toNat)
  case atStart => exact ⟨0, .slice none 0 0, rfl, by omega, HX0.out, World.ownsRow_nil _ _ _ _, Hrb, hBc, Nat.le_refl _, fun _ => rfl⟩
  case round =>
    obtain ⟨k, v, rfl, hk, hX, hown, hrb, hB, hsr, hcr⟩ := hrel
    obtain ⟨Av, capv, rfl, hcpv, hblv⟩ := own_slice hown
    have hBr : Below w.heap.size w wr := hBa.trans (hB.mono oM)
    have hX9 := hide hX
    by_cases hlt : (k : Int) < n
    ·obtain ⟨c, hc⟩ : ∃ c, cs[k]? = some c := ⟨_, List.getElem?_eq_getElem (by have := hcl.out; omega)⟩
     obtain ⟨kk, hkk⟩ : ∃ kk, ks[k]? = some kk := ⟨_, List.getElem?_eq_getElem oM⟩
     have x0 : wr.cell? ⟨b, off + k, none⟩ = some c := (hBr.cell (p := ⟨b, off + k, none⟩) hbw).trans (Hcw.out _ _ hc)
     have Hst := hide (fun W hW => Hstart.out k c kk W hc hkk hW)
     have hokk := (Hks.out kk (List.mem_of_getElem? hkk)).1
     have hone : ∀ u ∈ taskc kk, u.oneCell' = true := fun u hu => ones_tasks [kk] (fun y hy => by rw [List.mem_singleton.1 hy]; exact hokk) u (by simpa using hu)
     have hcc : kk.c.cells = #[kk.c] := by obtain ⟨⟨T, p, h1⟩, _⟩ := hokk; rw [h1]; rfl
     have hnc : kk.nx.cells = #[kk.nx] := by
      obtain ⟨_, h2⟩ := hokk
      rcases h2 with ⟨T2, p2, h2⟩ | h2
      ·rw [h2]; rfl
      ·rw [h2]; rfl
     have Hkk := hide hkk
     have hbr : b < wr.heap.size := by omega
     have j0 : (0 : Int) ≤ (k : Int) := by omega
     have d0 := hX.at (j := 7) rfl
     have dz : ∀ o, wr.frozen? ⟨B8, o, none⟩ = false := hX.2.1
     have Hown := hide hown
     have nk : ¬ k = n := by omega
     have h8r : B8 < wr.heap.size := by omega
     have Hokk := hide hokk
     have Hone := hide hone
     clear hown hX hc hkk hokk hone
     go_wp2_with fail
     refine wp_region_held_drew (S := (fun _ => True)) kR trivial (fun hHeld => ?_)
     refine tq1 0 ?_
     refine tq1 2 ?_
     refine wR (rs := [1, 3]) ?_
     focus
      refine aI (fun K hK => ?_) (aE fun K hK => ?_)
      focus
       go_simp
       go_wp2_with fail
       refine oK hK trivial fun hHeld => ?_
       clear hK K
       refine wE 3 fun K hK => ?_
       go_simp
       (go_at_call 55; refine (Hst.out _ (ab0)).mono ?_; rintro e w7 ⟨rfl, hb7'⟩; have hb7 : Below _ _ w7 := (by first | with_reducible exact noDrew hb7' | exact hb7'); have hsw7 := (hb7).size; (try simp at hsw7); obtain ⟨hcc7, hff7⟩ := bcell hb7; have hz70 : B8 < w7.heap.size := oM)
       go_wp2_with fail
       refine oK hK trivial fun hHeld => ?_
       clear hK K
       refine wE 4 fun K hK => ?_
       go_simp
       go_wp2_with fail
       refine oK hK trivial fun hHeld => ?_
       clear hK K
       refine wE 5 fun K hK => ?_
       refine wp_append_own (.tmp 33) (.tmp 36) 37 rfl wc.heap.size 75 i0 _ 11 96 Tryz.underlying37 hi.out iz0.out iz1.out iz2.out rfl dM (.slice Av k capv) k ((ks.take k).flatMap taskc) (by simp [Act.eval, Act.put]) (own_below Hown.out (ab0)) ⟨w7.heap.size, 0, none⟩ 1 (taskc kk) (by simp [Act.eval, Act.put]) rfl ?_ Hone.out (by unfold maxLen; omega) oM (by first | omega | (simp; done) | (simp; omega)) wc.heap.size wr (ab0) (Nat.le_refl _) ?_; (focus (intro j u hu; refine alloc_cell _ _ _ (by first | omega | (simp; done) | (simp; omega)) ?_; simpa [taskc] using hu)); intro v9 w9 how9 hb9 hz9 hst9; obtain ⟨g9, c9, rfl, hc9, hg9, -⟩ := own_some how9.out oM; (try simp at hz9); have d09 := (hb9.cell (p := ⟨B8, 7, none⟩) h8).trans d0; have dz9 : ∀ o, w9.frozen? ⟨B8, o, none⟩ = false := (fun o => (hb9.frozen (p := ⟨B8, o, none⟩) h8).trans (dz o))
       (try go_simp)
       go_wp2_with fail
       refine oK hK trivial fun hHeld => ?_
       clear hK K
       refine tq1 6 ?_
       refine wE 7 fun K hK => ?_
       go_simp
       go_wp2_with fail
       refine oK hK trivial fun hHeld => ?_
       clear hK K
       refine wD ?_
      rotate_left 1
      focus
       go_simp
       (go_at_call 55; refine (Hst.out _ (ab0)).mono ?_; rintro e w7 ⟨rfl, hb7'⟩; have hb7 : Below _ _ w7 := (by first | with_reducible exact noDrew hb7' | exact hb7'); have hsw7 := (hb7).size; (try simp at hsw7); obtain ⟨hcc7, hff7⟩ := bcell hb7; have hz70 : B8 < w7.heap.size := oM)
       go_wp2_with fail
       refine oK hK trivial fun hHeld => ?_
       clear hK K
       refine wR (rs := [1, 4]) ?_
       refine aI (fun K hK => ?_) (aE fun K hK => ?_)
       focus
        go_simp
        go_wp2_with fail
        refine oK hK trivial fun hHeld => ?_
        clear hK K
        refine wE 4 fun K hK => ?_
        go_simp
        go_wp2_with fail
        refine oK hK trivial fun hHeld => ?_
        clear hK K
        refine wE 5 fun K hK => ?_
        refine wp_append_own (.tmp 33) (.tmp 36) 37 rfl wc.heap.size 75 i0 _ 11 96 Tryz.underlying37 hi.out iz0.out iz1.out iz2.out rfl dM (.slice Av k capv) k ((ks.take k).flatMap taskc) (by simp [Act.eval, Act.put]) (own_below Hown.out (ab0)) ⟨w7.heap.size, 0, none⟩ 1 (taskc kk) (by simp [Act.eval, Act.put]) rfl ?_ Hone.out (by unfold maxLen; omega) oM (by first | omega | (simp; done) | (simp; omega)) wc.heap.size wr (ab0) (Nat.le_refl _) ?_; (focus (intro j u hu; refine alloc_cell _ _ _ (by first | omega | (simp; done) | (simp; omega)) ?_; simpa [taskc] using hu)); intro v9 w9 how9 hb9 hz9 hst9; obtain ⟨g9, c9, rfl, hc9, hg9, -⟩ := own_some how9.out oM; (try simp at hz9); have d09 := (hb9.cell (p := ⟨B8, 7, none⟩) h8).trans d0; have dz9 : ∀ o, w9.frozen? ⟨B8, o, none⟩ = false := (fun o => (hb9.frozen (p := ⟨B8, o, none⟩) h8).trans (dz o))
        (try go_simp)
        go_wp2_with fail
        refine oK hK trivial fun hHeld => ?_
        clear hK K
        refine tq1 6 ?_
        refine wE 7 fun K hK => ?_
        go_simp
        go_wp2_with fail
        refine oK hK trivial fun hHeld => ?_
        clear hK K
        refine wD ?_
       rotate_left 1
       focus
        go_simp
        go_wp2_with fail
        refine oK hK trivial fun hHeld => ?_
        clear hK K
        refine wE 1 fun K hK => ?_
        go_simp
        go_wp2_with fail
        refine oK hK trivial fun hHeld => ?_
        clear hK K
        refine wE 5 fun K hK => ?_
        refine wp_append_own (.tmp 33) (.tmp 36) 37 rfl wc.heap.size 75 i0 _ 11 96 Tryz.underlying37 hi.out iz0.out iz1.out iz2.out rfl dM (.slice Av k capv) k ((ks.take k).flatMap taskc) (by simp [Act.eval, Act.put]) (own_below Hown.out (ab0)) ⟨w7.heap.size, 0, none⟩ 1 (taskc kk) (by simp [Act.eval, Act.put]) rfl ?_ Hone.out (by unfold maxLen; omega) oM (by first | omega | (simp; done) | (simp; omega)) wc.heap.size wr (ab0) (Nat.le_refl _) ?_; (focus (intro j u hu; refine alloc_cell _ _ _ (by first | omega | (simp; done) | (simp; omega)) ?_; simpa [taskc] using hu)); intro v9 w9 how9 hb9 hz9 hst9; obtain ⟨g9, c9, rfl, hc9, hg9, -⟩ := own_some how9.out oM; (try simp at hz9); have d09 := (hb9.cell (p := ⟨B8, 7, none⟩) h8).trans d0; have dz9 : ∀ o, w9.frozen? ⟨B8, o, none⟩ = false := (fun o => (hb9.frozen (p := ⟨B8, o, none⟩) h8).trans (dz o))
        (try go_simp)
        go_wp2_with fail
        refine oK hK trivial fun hHeld => ?_
        clear hK K
        refine tq1 6 ?_
        refine wE 7 fun K hK => ?_
        go_simp
        go_wp2_with fail
        refine oK hK trivial fun hHeld => ?_
        clear hK K
        refine wD ?_
       rotate_left 1
      rotate_left 2
     all_goals go_wp2_with fail
     all_goals have hB9 : Below w1.heap.size w1 w9 := hB.trans (hb9.mono oM)
     all_goals have hX8 : BoxC B8 [.slice M.mem.pA M.mem.hs.length M.mem.pc, .slice M.mem.vA M.mem.vs.length M.mem.vc, .slice M.ln.fA M.ln.first.length M.ln.fc, .slice M.ln.lA M.ln.logs.length M.ln.lc, .map M.ln.asks, .slice M.sA M.steps.length M.sc, .int .i64 M.crashes, .slice Av k capv, .slice (some ⟨gb, 0, none⟩) n n] w9 := ⟨fun j u hu => (hb9.cell (p := ⟨B8, j, none⟩) h8).trans (hX9.out.1 j u hu), fun o => dz9 o, by omega⟩
     all_goals have hrb9 : Rd w9 w9.heap.size 1 (some ⟨gb, 0, none⟩) n (List.replicate n (.bool false)) := (Rd.stay hrb.out (fun _ b' o' e' _ => by injection e' with e'; injection e' with e' _; subst e'; exact hb9.block _ hgl)).more oM
     all_goals have htk : ks.take (k + 1) = ks.take k ++ [kk] := by rw [List.take_add_one, Hkk.out]; rfl
     all_goals have hn8 : B8 ≠ w.heap.size + 1 := by omega
     all_goals have hcz : ∀ j, (w9.setCell ⟨B8, 7, none⟩ (.slice (some ⟨g9, 0, none⟩) (k + 1) c9)).cell? ⟨w.heap.size + 1, j, none⟩ = wc.cell? ⟨w.heap.size + 1, j, none⟩ := fun j => by
                rw [World.cell?_setCell_other _ _ _ _ (by intro e; injection e with e _; omega)]
                exact (hb9.cell (p := ⟨w.heap.size + 1, j, none⟩) (by show w.heap.size + 1 < wc.heap.size; omega)).trans (hcr j)
     all_goals refine ⟨⟨k + 1, .slice (some ⟨g9, 0, none⟩) (k + 1) c9, by go_num, by omega, BoxC.store hX8 (o := 7) sM _, ?_, hide (Rd.more (Rd.set_off hrb9 (OffC.at hgb) _) sM), hB9.setCell (p := ⟨B8, 7, none⟩) hz8 _, by simp; omega, hcz⟩, by simp [intOf]; omega⟩
     all_goals rw [htk, List.flatMap_append, List.flatMap_cons, List.flatMap_nil, List.append_nil]
     all_goals exact ownsRow_setCell_below how9.out (a := ⟨B8, 7, none⟩) h8 _
    ·obtain rfl : k = n := by omega
     have hwk : ks.take k = ks := List.take_of_length_le oM
     rw [hwk] at hown
     have d0 := hX.at (j := 0) rfl
     have d1 := hX.at (j := 1) rfl
     have d2 := hX.at (j := 2) rfl
     have d3 := hX.at (j := 3) rfl
     have d4 := hX.at (j := 4) rfl
     have d5 := hX.at (j := 5) rfl
     have d6 := hX.at (j := 6) rfl
     have d7 := hX.at (j := 7) rfl
     have d8 := hX.at (j := 8) rfl
     have z0 := (hcr 0).trans c0
     have z1 := (hcr 1).trans c1
     have z2 := (hcr 2).trans c2
     have z3 := (hcr 3).trans c3
     have z4 := (hcr 4).trans c4
     have z5 := (hcr 5).trans c5
     have z6 := (hcr 6).trans c6
     have z7 := (hcr 7).trans c7
     have z8 := (hcr 8).trans c8
     have zf : ∀ o, wr.frozen? ⟨w.heap.size + 1, o, none⟩ = false := fun o => ((hB.frozen (p := ⟨w.heap.size + 1, o, none⟩) (by show w.heap.size + 1 < w1.heap.size; omega)).trans (hBc.frozen (p := ⟨w.heap.size + 1, o, none⟩) (by show w.heap.size + 1 < w1.heap.size; omega)).symm).trans (cf o)
     obtain ⟨c2, a2, rr⟩ := own_cap' hown
     have hgr : ∀ y ∈ ks, GotsR wr y.A y.m y.cp (y.l.flatMap gotc) ∧ y.ok := fun y hy => by
      obtain ⟨h1, h2, h3, h4, h5⟩ := Hks.out y hy
      rw [h2, h3, h4, h5]
      exact ⟨⟨Nat.le_refl _, fun _ => rfl, Rd.nil _ _ _ _⟩, h1⟩
     have hoffk : ∀ C, ∀ y ∈ ks, OffC C y.m y.A := fun C y hy => by
      obtain ⟨h1, h2, h3, h4, h5⟩ := Hks.out y hy
      rw [h2]
      intro _ b' o' e'
      cases e'
     have hRV : WorldV.R wr (⟨M, Av, capv, ks, some ⟨gb, 0, none⟩, k, List.replicate k false⟩ : WorldV) := ⟨HR.out.below hBr, ⟨(by show ks.length ≤ capv; omega), (fun e => (by show ks.length = 0; have := a2 e; omega)), (by show Rd wr wr.heap.size 11 Av ks.length _; rw [hlk]; exact rr), hgr⟩, (by show (List.replicate k false).length ≤ k; rw [List.length_replicate]; exact Nat.le_refl _), (fun e => by cases e), (by show Rd wr wr.heap.size 1 (some ⟨gb, 0, none⟩) (List.replicate k false).length ((List.replicate k false).map Value.bool); rw [List.length_replicate, List.map_replicate]; exact hrb.out)⟩
     have hO : ∀ C, C < wc.heap.size → C ≠ gb → M.off C → WorldV.off C (⟨M, Av, capv, ks, some ⟨gb, 0, none⟩, k, List.replicate k false⟩ : WorldV) := fun C hC hne hm => ⟨hm, (by show OffC C ks.length Av; rw [hlk]; exact own_off hown hC), OffC.at (fun e => hne e.symm), hoffk C⟩
     have HO := hide hO
     have oV := hO (w.heap.size + 1) oM oM (MachV.off_new HR.out oM)
     have HZ := hide (WorldV.R.set (WorldV.R.set (WorldV.R.set (WorldV.R.set (WorldV.R.set (WorldV.R.set (WorldV.R.set (WorldV.R.set (WorldV.R.set hRV oV (.of z0) (.slice M.mem.pA M.mem.hs.length M.mem.pc)) oV (.set (.of z1) _) (.slice M.mem.vA M.mem.vs.length M.mem.vc)) oV (.set (.set (.of z2) _) _) (.slice M.ln.fA M.ln.first.length M.ln.fc)) oV (.set (.set (.set (.of z3) _) _) _) (.slice M.ln.lA M.ln.logs.length M.ln.lc)) oV (.set (.set (.set (.set (.of z4) _) _) _) _) (.map M.ln.asks)) oV (.set (.set (.set (.set (.set (.of z5) _) _) _) _) _) (.slice M.sA M.steps.length M.sc)) oV (.set (.set (.set (.set (.set (.set (.of z6) _) _) _) _) _) _) (.int .i64 M.crashes)) oV (.set (.set (.set (.set (.set (.set (.set (.of z7) _) _) _) _) _) _) _) (.slice Av k capv)) oV (.set (.set (.set (.set (.set (.set (.set (.set (.of z8) _) _) _) _) _) _) _) _) (.slice (some ⟨gb, 0, none⟩) k k))
     have HBz := hide (Below.setCell (Below.setCell (Below.setCell (Below.setCell (Below.setCell (Below.setCell (Below.setCell (Below.setCell (Below.setCell hBr (p := ⟨w.heap.size + 1, 0, none⟩) (by show w.heap.size ≤ w.heap.size + 1; omega) (.slice M.mem.pA M.mem.hs.length M.mem.pc)) (p := ⟨w.heap.size + 1, 1, none⟩) (by show w.heap.size ≤ w.heap.size + 1; omega) (.slice M.mem.vA M.mem.vs.length M.mem.vc)) (p := ⟨w.heap.size + 1, 2, none⟩) (by show w.heap.size ≤ w.heap.size + 1; omega) (.slice M.ln.fA M.ln.first.length M.ln.fc)) (p := ⟨w.heap.size + 1, 3, none⟩) (by show w.heap.size ≤ w.heap.size + 1; omega) (.slice M.ln.lA M.ln.logs.length M.ln.lc)) (p := ⟨w.heap.size + 1, 4, none⟩) (by show w.heap.size ≤ w.heap.size + 1; omega) (.map M.ln.asks)) (p := ⟨w.heap.size + 1, 5, none⟩) (by show w.heap.size ≤ w.heap.size + 1; omega) (.slice M.sA M.steps.length M.sc)) (p := ⟨w.heap.size + 1, 6, none⟩) (by show w.heap.size ≤ w.heap.size + 1; omega) (.int .i64 M.crashes)) (p := ⟨w.heap.size + 1, 7, none⟩) (by show w.heap.size ≤ w.heap.size + 1; omega) (.slice Av k capv)) (p := ⟨w.heap.size + 1, 8, none⟩) (by show w.heap.size ≤ w.heap.size + 1; omega) (.slice (some ⟨gb, 0, none⟩) k k))
     clear hRV hO oV hown hrb rr hgr hoffk hcr
     go_wp2_with fail
     refine bodyPost_ret (v := .tuple #[.agg #[.slice M.mem.pA M.mem.hs.length M.mem.pc, .slice M.mem.vA M.mem.vs.length M.mem.vc, .slice M.ln.fA M.ln.first.length M.ln.fc, .slice M.ln.lA M.ln.logs.length M.ln.lc, .map M.ln.asks, .slice M.sA M.steps.length M.sc, .int .i64 M.crashes, .slice Av k capv, .slice (some ⟨gb, 0, none⟩) k k], .int .i64 0]) (by simp [results, Tryz.results22, go_sem]; (try go_simp)) rfl ⟨⟨M, Av, capv, ks, some ⟨gb, 0, none⟩, k, List.replicate k false⟩, (by simp only [woV, maV, hlk, List.length_replicate]), rfl, rfl, rfl, ?_, (fun C hC hm => HO.out C oM oM hm), ?_⟩
     ·with_reducible exact HZ.out
     ·with_reducible exact HBz.out
theorem LogV.R.grown {C : Nat} {w w' : World} {g : LogV} (h : g.R w) (hC : StrM C w) (hg : w.grownBy w' (some C)) : g.R w' := ⟨h.1, h.2.1, (h.2.2.grown dM hC hg).more' hg.size⟩
theorem LinesV.R.grown {C : Nat} {w w' : World} {m : LinesV} (h : m.R w) (hC : StrM C w) (hg : w.grownBy w' (some C)) : m.R w' :=
 ⟨⟨h.1.1, h.1.2.1, (h.1.2.2.grown dM hC hg).more' hg.size⟩, h.2.1, h.2.2.1, (h.2.2.2.1.grown dM hC hg).more' hg.size, fun g hg' => (h.2.2.2.2 g hg').grown hC hg⟩
theorem keyOf_int (v : Value) : keyOf Tryz.prog 3 v = keyOf Tryz.prog 63 v := by
 have e1 := Tryz.underlying3
 have e2 := Tryz.underlying63
 generalize Tryz.prog = P at e1 e2 ⊢
 simp only [keyOf, mapKey, e1, e2]
theorem AskR.grown {N C : Nat} {w w' : World} {v : Option Nat} {g : Int → Int} (h : AskR N w v g) (hC : StrM C w) (hg : w.grownBy w' (some C)) : AskR N w' v g := by
 refine ⟨h.1, ?_⟩
 rcases h.2 with h2 | ⟨b, D, e, h1, h2, h3, h4⟩
 ·exact .inl h2
 ·refine .inr ⟨b, D, e, h1.kept hg ?_, h2, h3, h4⟩
  intro eb
  injection eb with eb
  subst eb
  obtain ⟨es, clock, hb, F, _, hD⟩ := h1
  obtain ⟨es', clock', hb', hno⟩ := hC
  rw [hb] at hb'
  injection hb' with hb'
  injection hb' with e1 e2
  subst e1
  have hnil : es.toList = [] := by
   cases hes : es.toList with
   | nil => rfl
   | cons x l =>
    have hx : x ∈ es.toList := by rw [hes]; exact List.mem_cons_self
    obtain ⟨y, hy⟩ := F.reads x hx
    have q := Go.WideElems.rd_key hy
    rw [keyOf_int, hno x hx] at q
    cases q
  rw [hnil] at hD
  obtain ⟨kl, hk⟩ := h4
  rw [hD, has_eq] at hk
  cases hk
theorem AsksR.grown {N C : Nat} {w w' : World} {v : Option Nat} {G : Nat → Int → Int} (h : AsksR N w v G) (hv : v ≠ some C) (hC : StrM C w) (hg : w.grownBy w' (some C)) : AsksR N w' v G := by
 rcases h with h | ⟨b, D, e, h1, h2, h3⟩
 ·exact .inl h
 ·exact .inr ⟨b, D, e, h1.kept hg (by intro eb; exact hv (by rw [e, eb])), h2, fun t ht => by obtain ⟨u, e1, e2⟩ := h3 t ht; exact ⟨u, e1, e2.grown hC hg⟩⟩
theorem MachV.R.grown {C : Nat} {w w' : World} {m : MachV} (hL : m.mem.hs.length ≤ 4096) (hv : m.ln.asks ≠ some C) (h : m.R w) (hC : StrM C w) (hg : w.grownBy w' (some C)) : m.R w' :=
 ⟨h.1.grown hL hC hg, h.2.1.grown hC hg, h.2.2.1, h.2.2.2.1, (h.2.2.2.2.1.grown dM hC hg).more' hg.size, h.2.2.2.2.2.grown hv hC hg⟩
theorem GotsR.grown {C m cp : Nat} {w w' : World} {A : Option Addr} {xs : List Value} (h : GotsR w A m cp xs) (hC : StrM C w) (hg : w.grownBy w' (some C)) : GotsR w' A m cp xs :=
 ⟨h.1, h.2.1, (h.2.2.grown dM hC hg).more' hg.size⟩
theorem WorldV.R.grown {C : Nat} {w w' : World} {V : WorldV} (hL : V.M.mem.hs.length ≤ 4096) (hv : V.M.ln.asks ≠ some C) (h : V.R w) (hC : StrM C w) (hg : w.grownBy w' (some C)) : V.R w' :=
 ⟨h.1.grown hL hv hC hg, ⟨h.2.1.1, h.2.1.2.1, (h.2.1.2.2.1.grown dM hC hg).more' hg.size, fun k hk => ⟨(h.2.1.2.2.2 k hk).1.grown hC hg, (h.2.1.2.2.2 k hk).2⟩⟩, h.2.2.1, h.2.2.2.1, (h.2.2.2.2.grown dM hC hg).more' hg.size⟩
theorem below_of_grownBy {C N : Nat} {w w' : World} (hg : w.grownBy w' (some C)) (hN : N ≤ C) (hNw : N ≤ w.heap.size) : Below N w w' :=
 ⟨hg.os, hg.tape, hg.output, hg.size, fun k hk => hg.block k oM (by intro e; injection e with e; omega)⟩
end Go.Proofs.YtnnmenmifphadaaGreatDoor
