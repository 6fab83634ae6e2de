/- Package line: has, Store. -/
import Derived.Test.YtnnmenmifphadaaGreatDoorU24
set_option linter.unusedSimpArgs false
set_option linter.unusedVariables false
set_option maxRecDepth 100000
set_option maxHeartbeats 40000000
namespace Go.Proofs.YtnnmenmifphadaaGreatDoor
open Go.RowKit Go.Maps
theorem line_has (m : LinesV) (k : Nat) (w : World) (hk : k < m.first.length) : Calls Tryz.prog 140 #[(.agg #[.slice (m).fA (m).first.length (m).fc, .slice (m).lA (m).logs.length (m).lc, .map (m).asks]), .int .i64 k] w (Ret (.bool true) w) := by
 have h0 : (0 : Int) ≤ k := by omega
 have h1 : (k : Int) < (m.first.length : Int) := by omega
 go_enter Tryz.func140, Tryz.ntmps140
 go_wp2_with fail
 all_goals first
  | (go_ret; exact ⟨rfl, ab0⟩)
  | (exfalso; omega)
theorem clipst_any (A : Option Addr) (m cp : Nat) (w : World) (h : m ≤ cp) :
  Calls Tryz.prog 156 #[.slice A m cp] w fun e w' => e = .returned (.slice A m m) ∧ w = w' := by
 go_enter Tryz.func156, Tryz.ntmps156
 go_wp2
 all_goals go_ret
 all_goals exact ⟨rfl, rfl⟩
theorem info_store : (Tryz.prog.info? 233).map (fun i => (i.zero, i.size, i.bytes)) = some (some (.agg #[.int .i64 0, .int .i64 0, .int .u32 0, .int .u32 0]), 4, 24) := by kernel_rfl
theorem line_store (m : LinesV) (k : Nat) (g : LogV) (x : W3) (w : World) (hR : m.R w) (hk : k < m.first.length) (hg : m.logs[k / 8]? = some g) (hn : m.first.length ≤ 4096) (hl : m.logs.length ≤ 4096) (hg6 : g.l.length ≤ 1000000) :
  Calls Tryz.prog 139 #[(.agg #[.slice (m).fA (m).first.length (m).fc, .slice (m).lA (m).logs.length (m).lc, .map (m).asks]), .int .i64 k, (w3V x)] w fun e w' => ∃ g1 lc' g2 cap', e = .returned (.tuple #[.agg #[.slice m.fA m.first.length m.fc, .slice (some ⟨g1, 0, none⟩) m.logs.length lc', .map m.asks], .int .i64 0]) ∧ w.heap.size ≤ g1 ∧ w.heap.size ≤ g2 ∧ LinesV.R w' ⟨m.fA, m.fc, m.first, some ⟨g1, 0, none⟩, lc', m.logs.set (k / 8) ⟨some ⟨g2, 0, none⟩, cap', g.l ++ [((k : Int), x)], g.kept⟩, m.asks⟩ ∧ Below w.heap.size w w' := by
 obtain ⟨i0, hi0, jz0, jz1, jz2⟩ := info_parts info_store
 have hi := hide hi0
 have iz0 := hide jz0
 have iz1 := hide jz1
 have iz2 := hide jz2
 clear hi0 jz0 jz1 jz2
 have hj : k / 8 < m.logs.length := (List.getElem?_eq_some_iff.1 hg).1
 have hgR := hide (hR.2.2.2.2 g (List.mem_of_getElem? hg))
 have hhas := fun W => line_has m k W hk
 have hone : ∀ u ∈ m.logs.flatMap logc, u.oneCell' = true := by
  intro u hu
  obtain ⟨y, -, hy⟩ := List.mem_flatMap.1 hu
  simp [logc] at hy
  rcases hy with rfl | rfl <;> rfl
 have hcl := fun W (hw : Rd W W.heap.size 2 m.lA m.logs.length (m.logs.flatMap logc)) => clone_L m.lA m.logs.length m.lc (m.logs.flatMap logc) W hw hR.2.2.1 hone oM
 have Hrl := hide hR.2.2.2.1
 have HR := hide hR
 have Hhas := hide hhas
 have Hcl := hide hcl
 have Hg := hide hg
 have Hj := hide hj
 obtain ⟨fA, fc, first, lA, lc, logs, asks⟩ := m
 simp only at hj hn hl hk Hhas Hcl Hrl
 have hj0 : (0 : Int) ≤ ((k / 8 : Nat) : Int) := by omega
 have hj1 : ((k / 8 : Nat) : Int) < (logs.length : Int) := by omega
 clear hR hhas hone hcl hg
 go_enter Tryz.func139, Tryz.ntmps139
 go_wp2_with (first
  | (go_at_call 140; refine (Hhas.out _).mono ?_; rintro e w1 ⟨rfl, hb1⟩; obtain ⟨hcc1, hff1, hs1⟩ := bC hb1; (try simp at hs1); have hz10 : w.heap.size < w1.heap.size := oM; have hz11 : w.heap.size + 1 < w1.heap.size := oM; have hz12 : w.heap.size + 1 + 1 < w1.heap.size := oM)
  | (go_at_call 124; refine (Hcl.out _ ((Hrl.out.below ab0).more oM)).mono ?_; rintro e w2 ⟨A', lc', rfl, how2, hb2⟩; obtain ⟨g1, lc1, hA1, hlc1, hg1, hr1⟩ := own_some how2 oM; injection hA1 with hA1 _ hA2; subst hA1 hA2; obtain ⟨hcl2, hfl2⟩ := own_cells how2; obtain ⟨hcc2, hff2, hs2⟩ := bC hb2; (try simp at hs2); (try simp at hg1); have hz20 : w.heap.size < w2.heap.size := oM; have hz21 : w.heap.size + 1 < w2.heap.size := oM; have hz22 : w.heap.size + 1 + 1 < w2.heap.size := oM; have Hown2 := hide how2; have Hcl2 := hide hcl2; have Hr1 := hide hr1; clear how2 hcl2 hr1; have q0 : w2.cell? ⟨w.heap.size, 0, none⟩ = some (.slice fA first.length fc) := (by go_simp); have q1 : w2.cell? ⟨w.heap.size, 1, none⟩ = some (.slice lA logs.length lc) := (by go_simp); have q2 : w2.cell? ⟨w.heap.size, 2, none⟩ = some (.map asks) := (by go_simp); have x0 : w2.cell? ⟨w.heap.size + 1, 0, none⟩ = some (.int .i64 x.v) := (by go_simp); have x1 : w2.cell? ⟨w.heap.size + 1, 1, none⟩ = some (.int .u32 x.r) := (by go_simp); have x2 : w2.cell? ⟨w.heap.size + 1, 2, none⟩ = some (.int .u32 x.f) := (by go_simp); have r0 : w2.cell? ⟨w.heap.size + 1 + 1, 0, none⟩ = some (.slice none 0 0) := (by go_simp); have r1 : w2.cell? ⟨w.heap.size + 1 + 1, 1, none⟩ = some (.slice none 0 0) := (by go_simp); have r2 : w2.cell? ⟨w.heap.size + 1 + 1, 2, none⟩ = some (.map none) := (by go_simp); have f0 : ∀ o, w2.frozen? ⟨w.heap.size, o, none⟩ = false := (by intro o; go_simp); have f1 : ∀ o, w2.frozen? ⟨w.heap.size + 1 + 1, o, none⟩ = false := (by intro o; go_simp); have hBw2 : Below w.heap.size w w2 := (ab0); clear hcc1 hff1 hcc2 hff2 hb1 hb2))
 have ng0 : ¬ w.heap.size = g1 := by omega
 have ng1 : ¬ w.heap.size + 1 = g1 := by omega
 have ng2 : ¬ w.heap.size + 1 + 1 = g1 := by omega
 have ng0' : w.heap.size ≠ g1 := ng0
 have hkc := told_at logc_len logs (k / 8) g Hg.out 0 oM
 have k0 : w2.cell? ⟨g1, k / 8 * 2, none⟩ = some (.slice g.A g.l.length g.cap) := Hcl2.out _ _ hkc
 clear hkc
 obtain ⟨w3, hw3⟩ : ∃ W : World, W = (w2.setCell ⟨w.heap.size, 1, none⟩ (.slice (some ⟨g1, 0, none⟩) logs.length lc')) := ⟨_, rfl⟩
 have es3 : w2.heap.size ≤ w3.heap.size := by rw [hw3]; simp
 have kk0 : w3.cell? ⟨g1, k / 8 * 2, none⟩ = some (.slice g.A g.l.length g.cap) := by rw [hw3]; go_simp
 have kq0 : w3.cell? ⟨w.heap.size, 0, none⟩ = some (.slice fA first.length fc) := by rw [hw3]; go_simp
 have kq1 : w3.cell? ⟨w.heap.size, 1, none⟩ = some ((.slice (some ⟨g1, 0, none⟩) logs.length lc')) := by rw [hw3]; go_simp
 have kq2 : w3.cell? ⟨w.heap.size, 2, none⟩ = some (.map asks) := by rw [hw3]; go_simp
 have kx0 : w3.cell? ⟨w.heap.size + 1, 0, none⟩ = some (.int .i64 x.v) := by rw [hw3]; go_simp
 have kx1 : w3.cell? ⟨w.heap.size + 1, 1, none⟩ = some (.int .u32 x.r) := by rw [hw3]; go_simp
 have kx2 : w3.cell? ⟨w.heap.size + 1, 2, none⟩ = some (.int .u32 x.f) := by rw [hw3]; go_simp
 have kr0 : w3.cell? ⟨w.heap.size + 1 + 1, 0, none⟩ = some (.slice none 0 0) := by rw [hw3]; go_simp
 have kr1 : w3.cell? ⟨w.heap.size + 1 + 1, 1, none⟩ = some (.slice none 0 0) := by rw [hw3]; go_simp
 have kr2 : w3.cell? ⟨w.heap.size + 1 + 1, 2, none⟩ = some (.map none) := by rw [hw3]; go_simp
 have kf0 : ∀ o, w3.frozen? ⟨w.heap.size, o, none⟩ = false := by intro o; rw [hw3]; go_simp
 have kf1 : ∀ o, w3.frozen? ⟨w.heap.size + 1 + 1, o, none⟩ = false := by intro o; rw [hw3]; go_simp
 have kfg : ∀ o, w3.frozen? ⟨g1, o, none⟩ = false := by intro o; rw [hw3]; go_simp
 have hBw3 : Below w.heap.size w w3 := by rw [hw3]; exact ab0
 have Hr3 : Hid (Rd w3 w3.heap.size 2 (some ⟨g1, 0, none⟩) logs.length (logs.flatMap logc)) := hide (by rw [hw3]; exact Rd.more (Rd.set_off Hr1.out (OffC.at (fun e => ng0 e.symm)) _) sM)
 have hgl3 : g1 < w3.heap.size := cell_lt kk0
 rw [← hw3]
 clear hw3 k0 q0 q1 q2 x0 x1 x2 r0 r1 r2 f0 f1 hfl2
 have hz30 : w.heap.size < w3.heap.size := by omega
 have hz31 : w.heap.size + 1 < w3.heap.size := by omega
 have hz32 : w.heap.size + 1 + 1 < w3.heap.size := by omega
 have hgcap := hide hgR.out.1
 have hgRd := hide hgR.out.2.2
 have hgA := hide hgR.out.2.1
 refine wp_region_held_drew (S := (fun w' => w'.cell? ⟨w.heap.size + 1, 0, none⟩ = some (.int .i64 x.v) ∧ w'.cell? ⟨w.heap.size + 1, 1, none⟩ = some (.int .u32 x.r) ∧ w'.cell? ⟨w.heap.size + 1, 2, none⟩ = some (.int .u32 x.f))) kR ab11 (fun hHeld => ?_)
 refine tq1 0 ?_
 refine tq1 1 ?_
 refine tq1 2 ?_
 refine tq1 3 ?_
 refine tq1 6 ?_
 refine tq1 7 ?_
 refine tq1 8 ?_
 refine wR (rs := [4, 9]) ?_
 focus
  refine aI (fun K hK => ?_) (aE fun K hK => ?_)
  focus
   go_simp
   go_wp2_with fail
   refine oK hK ab11 fun hHeld => ?_
   clear hK K
   refine wR (rs := [5, 9]) ?_
   refine aI (fun K hK => ?_) (aE fun K hK => ?_)
   focus
    go_simp
    (go_at_call 156; refine (clipst_any g.A g.l.length g.cap _ hgcap.out).mono ?_; rintro e w4 ⟨rfl, rfl⟩)
    go_wp2_with fail
    refine oK hK ab11 fun hHeld => ?_
    clear hK K
    refine wE 9 fun K hK => ?_
    go_simp
    go_wp2_with fail
    refine oK hK ab11 fun hHeld => ?_
    clear hK K
    refine wE 10 fun K hK => ?_
    refine wp_append_one (.tmp 28) (.tmp 32) 215 rfl 233 i0 _ 4 24 Tryz.underlying215 hi.out iz0.out iz1.out iz2.out rfl w.heap.size g.A g.l.length (g.l.flatMap storec) (by simp [Act.eval, Act.put]) (hgRd.out.below ab0) hgA.out ⟨w3.heap.size, 0, none⟩ 1 (storec ((k : Int), x)) (by simp [Act.eval, Act.put]) rfl ?_ (by unfold maxLen; omega) oM ?_; (focus (intro j u hu; refine alloc_cell _ _ _ sM ?_; simpa [storec] using hu)); intro cp5 w5 how5 hb5' hz5; (try simp at hz5); have hB35 : Below w3.heap.size w3 w5 := (Below.drew (Below.alloc (Below.refl w3.heap.size w3) (Nat.le_refl _) _)).trans (hb5'.mono sM); have hs5 := hB35.size; have hc5 : ∀ x o, x < w3.heap.size → w5.cell? ⟨x, o, none⟩ = w3.cell? ⟨x, o, none⟩ := (fun x o hx => hB35.cell (p := ⟨x, o, none⟩) hx); have hf5 : ∀ x o, x < w3.heap.size → w5.frozen? ⟨x, o, none⟩ = w3.frozen? ⟨x, o, none⟩ := (fun x o hx => hB35.frozen (p := ⟨x, o, none⟩) hx)
    (try go_simp)
    go_wp2_with fail
    refine oK hK ab11 fun hHeld => ?_
    clear hK K
    refine tq1 11 ?_
    refine tq1 12 ?_
    refine wE 13 fun K hK => ?_
    go_simp
    go_wp2_with fail
    refine oK hK ab11 fun hHeld => ?_
    clear hK K
    refine wD ?_
   rotate_left 1
   focus
    go_simp
    go_wp2_with fail
    refine oK hK ab11 fun hHeld => ?_
    clear hK K
    refine wE 5 fun K hK => ?_
    go_simp
    (go_at_call 156; refine (clipst_any g.A g.l.length g.cap _ hgcap.out).mono ?_; rintro e w4 ⟨rfl, rfl⟩)
    go_wp2_with fail
    refine oK hK ab11 fun hHeld => ?_
    clear hK K
    refine wE 10 fun K hK => ?_
    refine wp_append_one (.tmp 28) (.tmp 32) 215 rfl 233 i0 _ 4 24 Tryz.underlying215 hi.out iz0.out iz1.out iz2.out rfl w.heap.size g.A g.l.length (g.l.flatMap storec) (by simp [Act.eval, Act.put]) (hgRd.out.below ab0) hgA.out ⟨w3.heap.size, 0, none⟩ 1 (storec ((k : Int), x)) (by simp [Act.eval, Act.put]) rfl ?_ (by unfold maxLen; omega) oM ?_; (focus (intro j u hu; refine alloc_cell _ _ _ sM ?_; simpa [storec] using hu)); intro cp5 w5 how5 hb5' hz5; (try simp at hz5); have hB35 : Below w3.heap.size w3 w5 := (Below.drew (Below.alloc (Below.refl w3.heap.size w3) (Nat.le_refl _) _)).trans (hb5'.mono sM); have hs5 := hB35.size; have hc5 : ∀ x o, x < w3.heap.size → w5.cell? ⟨x, o, none⟩ = w3.cell? ⟨x, o, none⟩ := (fun x o hx => hB35.cell (p := ⟨x, o, none⟩) hx); have hf5 : ∀ x o, x < w3.heap.size → w5.frozen? ⟨x, o, none⟩ = w3.frozen? ⟨x, o, none⟩ := (fun x o hx => hB35.frozen (p := ⟨x, o, none⟩) hx)
    (try go_simp)
    go_wp2_with fail
    refine oK hK ab11 fun hHeld => ?_
    clear hK K
    refine tq1 11 ?_
    refine tq1 12 ?_
    refine wE 13 fun K hK => ?_
    go_simp
    go_wp2_with fail
    refine oK hK ab11 fun hHeld => ?_
    clear hK K
    refine wD ?_
   rotate_left 1
  rotate_left 2
  focus
   go_simp
   go_wp2_with fail
   refine oK hK ab11 fun hHeld => ?_
   clear hK K
   refine wE 4 fun K hK => ?_
   go_simp
   go_wp2_with fail
   refine oK hK ab11 fun hHeld => ?_
   clear hK K
   refine wE 5 fun K hK => ?_
   go_simp
   (go_at_call 156; refine (clipst_any g.A g.l.length g.cap _ hgcap.out).mono ?_; rintro e w4 ⟨rfl, rfl⟩)
   go_wp2_with fail
   refine oK hK ab11 fun hHeld => ?_
   clear hK K
   refine wE 10 fun K hK => ?_
   refine wp_append_one (.tmp 28) (.tmp 32) 215 rfl 233 i0 _ 4 24 Tryz.underlying215 hi.out iz0.out iz1.out iz2.out rfl w.heap.size g.A g.l.length (g.l.flatMap storec) (by simp [Act.eval, Act.put]) (hgRd.out.below ab0) hgA.out ⟨w3.heap.size, 0, none⟩ 1 (storec ((k : Int), x)) (by simp [Act.eval, Act.put]) rfl ?_ (by unfold maxLen; omega) oM ?_; (focus (intro j u hu; refine alloc_cell _ _ _ sM ?_; simpa [storec] using hu)); intro cp5 w5 how5 hb5' hz5; (try simp at hz5); have hB35 : Below w3.heap.size w3 w5 := (Below.drew (Below.alloc (Below.refl w3.heap.size w3) (Nat.le_refl _) _)).trans (hb5'.mono sM); have hs5 := hB35.size; have hc5 : ∀ x o, x < w3.heap.size → w5.cell? ⟨x, o, none⟩ = w3.cell? ⟨x, o, none⟩ := (fun x o hx => hB35.cell (p := ⟨x, o, none⟩) hx); have hf5 : ∀ x o, x < w3.heap.size → w5.frozen? ⟨x, o, none⟩ = w3.frozen? ⟨x, o, none⟩ := (fun x o hx => hB35.frozen (p := ⟨x, o, none⟩) hx)
   (try go_simp)
   go_wp2_with fail
   refine oK hK ab11 fun hHeld => ?_
   clear hK K
   refine tq1 11 ?_
   refine tq1 12 ?_
   refine wE 13 fun K hK => ?_
   go_simp
   go_wp2_with fail
   refine oK hK ab11 fun hHeld => ?_
   clear hK K
   refine wD ?_
  rotate_left 1
 all_goals have q05 := (hc5 _ 0 hz30).trans kq0
 all_goals have q15 := (hc5 _ 1 hz30).trans kq1
 all_goals have q25 := (hc5 _ 2 hz30).trans kq2
 all_goals have r05 := (hc5 _ 0 hz32).trans kr0
 all_goals have r15 := (hc5 _ 1 hz32).trans kr1
 all_goals have r25 := (hc5 _ 2 hz32).trans kr2
 all_goals have kk5 := (hc5 _ (k / 8 * 2) hgl3).trans kk0
 all_goals have f15 : ∀ o, w5.frozen? ⟨w.heap.size + 1 + 1, o, none⟩ = false := fun o => (hf5 _ o hz32).trans (kf1 o)
 all_goals clear hc5 hf5 kq0 kq1 kq2 kr0 kr1 kr2 kk0 kf0 kf1 kfg kx0 kx1 kx2
 all_goals go_wp2_with fail
 all_goals have nw0 : w.heap.size + 1 + 1 ≠ w3.heap.size + 1 := by omega
 all_goals have nw1 : g1 ≠ w3.heap.size + 1 := by omega
 all_goals have hgw1 : w.heap.size ≤ g1 := by omega
 all_goals have hgw2 : w.heap.size ≤ w3.heap.size + 1 := by omega
 all_goals have HBZ : Hid (Below w.heap.size w ((((w5.setCell ⟨g1, k / 8 * 2, none⟩ (.slice (some ⟨w3.heap.size + 1, 0, none⟩) (g.l.length + 1) cp5)).setCell ⟨w.heap.size + 1 + 1, 0, none⟩ (.slice fA first.length fc)).setCell ⟨w.heap.size + 1 + 1, 1, none⟩ (.slice (some ⟨g1, 0, none⟩) logs.length lc')).setCell ⟨w.heap.size + 1 + 1, 2, none⟩ (.map asks))) := hide (Below.setCell (Below.setCell (Below.setCell (Below.setCell (hBw3.trans (hB35.mono oM)) hgw1 _) ab4 _) ab4 _) ab4 _)
 all_goals have hown5 : w5.ownsRow (w3.heap.size + 1) 233 4 (.slice (some ⟨w3.heap.size + 1, 0, none⟩) (g.l.length + 1) cp5) (g.l.length + 1) (g.l.flatMap storec ++ storec ((k : Int), x)) := by simpa using how5.out
 all_goals obtain ⟨g2', cq, hq, hcq, -, hrd5⟩ := own_some hown5 oM
 all_goals injection hq with hq _ hq2
 all_goals injection hq with hq
 all_goals injection hq with hq _
 all_goals subst hq hq2
 all_goals have hrl : Rd ((((w5.setCell ⟨g1, k / 8 * 2, none⟩ (.slice (some ⟨w3.heap.size + 1, 0, none⟩) (g.l.length + 1) cp5)).setCell ⟨w.heap.size + 1 + 1, 0, none⟩ (.slice fA first.length fc)).setCell ⟨w.heap.size + 1 + 1, 1, none⟩ (.slice (some ⟨g1, 0, none⟩) logs.length lc')).setCell ⟨w.heap.size + 1 + 1, 2, none⟩ (.map asks)) ((((w5.setCell ⟨g1, k / 8 * 2, none⟩ (.slice (some ⟨w3.heap.size + 1, 0, none⟩) (g.l.length + 1) cp5)).setCell ⟨w.heap.size + 1 + 1, 0, none⟩ (.slice fA first.length fc)).setCell ⟨w.heap.size + 1 + 1, 1, none⟩ (.slice (some ⟨g1, 0, none⟩) logs.length lc')).setCell ⟨w.heap.size + 1 + 1, 2, none⟩ (.map asks)).heap.size 2 (some ⟨g1, 0, none⟩) logs.length ((logs.set (k / 8) ⟨some ⟨w3.heap.size + 1, 0, none⟩, cp5, g.l ++ [((k : Int), x)], g.kept⟩).flatMap logc) := by
            have h1 : (w5.setCell ⟨g1, 0 + k / 8 * 2, none⟩ (.slice (some ⟨w3.heap.size + 1, 0, none⟩) (g.l.length + 1) cp5)).heap.size = w5.heap.size := by simp
            have hlen : k / 8 * 2 + 0 < (logs.flatMap logc).length := by rw [Hr3.out.1]; have := Hj.out; omega
            have h2 := Rd.setAt (Hr3.out.below hB35) (i := k / 8 * 2 + 0) hlen (.slice (some ⟨w3.heap.size + 1, 0, none⟩) (g.l.length + 1) cp5)
            rw [flatMap_set logc_len logs (k / 8) 0 g ⟨some ⟨w3.heap.size + 1, 0, none⟩, cp5, g.l ++ [((k : Int), x)], g.kept⟩ (.slice (some ⟨w3.heap.size + 1, 0, none⟩) (g.l.length + 1) cp5) Hg.out oM (by simp [logc]), Nat.zero_add, Nat.add_zero] at h2
            exact Rd.more (Rd.set_off (Rd.set_off (Rd.set_off h2 (OffC.at (fun e => ng2 e.symm)) _) (OffC.at (fun e => ng2 e.symm)) _) (OffC.at (fun e => ng2 e.symm)) _) (by simp; exact hs5)
 all_goals have hrn : LogV.R ((((w5.setCell ⟨g1, k / 8 * 2, none⟩ (.slice (some ⟨w3.heap.size + 1, 0, none⟩) (g.l.length + 1) cp5)).setCell ⟨w.heap.size + 1 + 1, 0, none⟩ (.slice fA first.length fc)).setCell ⟨w.heap.size + 1 + 1, 1, none⟩ (.slice (some ⟨g1, 0, none⟩) logs.length lc')).setCell ⟨w.heap.size + 1 + 1, 2, none⟩ (.map asks)) ⟨some ⟨w3.heap.size + 1, 0, none⟩, cp5, g.l ++ [((k : Int), x)], g.kept⟩ := by
            refine ⟨?_, (fun e => by cases e), ?_⟩
            ·show (g.l ++ [((k : Int), x)]).length ≤ cp5
             rw [List.length_append]; exact hcq
            ·show Rd ((((w5.setCell ⟨g1, k / 8 * 2, none⟩ (.slice (some ⟨w3.heap.size + 1, 0, none⟩) (g.l.length + 1) cp5)).setCell ⟨w.heap.size + 1 + 1, 0, none⟩ (.slice fA first.length fc)).setCell ⟨w.heap.size + 1 + 1, 1, none⟩ (.slice (some ⟨g1, 0, none⟩) logs.length lc')).setCell ⟨w.heap.size + 1 + 1, 2, none⟩ (.map asks)) ((((w5.setCell ⟨g1, k / 8 * 2, none⟩ (.slice (some ⟨w3.heap.size + 1, 0, none⟩) (g.l.length + 1) cp5)).setCell ⟨w.heap.size + 1 + 1, 0, none⟩ (.slice fA first.length fc)).setCell ⟨w.heap.size + 1 + 1, 1, none⟩ (.slice (some ⟨g1, 0, none⟩) logs.length lc')).setCell ⟨w.heap.size + 1 + 1, 2, none⟩ (.map asks)).heap.size 4 (some ⟨w3.heap.size + 1, 0, none⟩) (g.l ++ [((k : Int), x)]).length ((g.l ++ [((k : Int), x)]).flatMap storec)
             rw [List.length_append, List.flatMap_append, List.flatMap_cons, List.flatMap_nil, List.append_nil]
             exact Rd.more (Rd.set_off (Rd.set_off (Rd.set_off (Rd.set_off hrd5 (OffC.at (fun e => nw1 e.symm)) _) (OffC.at (fun e => nw0 e.symm)) _) (OffC.at (fun e => nw0 e.symm)) _) (OffC.at (fun e => nw0 e.symm)) _) sM
 all_goals have HRZ := hide (HR.out.below HBZ.out)
 all_goals have HZ : Hid (LinesV.R ((((w5.setCell ⟨g1, k / 8 * 2, none⟩ (.slice (some ⟨w3.heap.size + 1, 0, none⟩) (g.l.length + 1) cp5)).setCell ⟨w.heap.size + 1 + 1, 0, none⟩ (.slice fA first.length fc)).setCell ⟨w.heap.size + 1 + 1, 1, none⟩ (.slice (some ⟨g1, 0, none⟩) logs.length lc')).setCell ⟨w.heap.size + 1 + 1, 2, none⟩ (.map asks)) ⟨fA, fc, first, some ⟨g1, 0, none⟩, lc', logs.set (k / 8) ⟨some ⟨w3.heap.size + 1, 0, none⟩, cp5, g.l ++ [((k : Int), x)], g.kept⟩, asks⟩) := hide (by
            refine ⟨HRZ.out.1, ?_, (fun e => by cases e), ?_, fun y hy => ?_⟩
            ·show (logs.set (k / 8) _).length ≤ lc'
             rw [List.length_set]; exact hlc1
            ·show Rd ((((w5.setCell ⟨g1, k / 8 * 2, none⟩ (.slice (some ⟨w3.heap.size + 1, 0, none⟩) (g.l.length + 1) cp5)).setCell ⟨w.heap.size + 1 + 1, 0, none⟩ (.slice fA first.length fc)).setCell ⟨w.heap.size + 1 + 1, 1, none⟩ (.slice (some ⟨g1, 0, none⟩) logs.length lc')).setCell ⟨w.heap.size + 1 + 1, 2, none⟩ (.map asks)) ((((w5.setCell ⟨g1, k / 8 * 2, none⟩ (.slice (some ⟨w3.heap.size + 1, 0, none⟩) (g.l.length + 1) cp5)).setCell ⟨w.heap.size + 1 + 1, 0, none⟩ (.slice fA first.length fc)).setCell ⟨w.heap.size + 1 + 1, 1, none⟩ (.slice (some ⟨g1, 0, none⟩) logs.length lc')).setCell ⟨w.heap.size + 1 + 1, 2, none⟩ (.map asks)).heap.size 2 (some ⟨g1, 0, none⟩) (logs.set (k / 8) ⟨some ⟨w3.heap.size + 1, 0, none⟩, cp5, g.l ++ [((k : Int), x)], g.kept⟩).length _
             rw [List.length_set]; exact hrl
            ·rcases List.mem_or_eq_of_mem_set hy with hy | rfl
             ·exact HRZ.out.2.2.2.2 y hy
             ·exact hrn)
 all_goals clear hrl hrn HRZ hrd5 hown5
 all_goals refine bodyPost_ret (v := .tuple #[.agg #[.slice fA first.length fc, .slice (some ⟨g1, 0, none⟩) logs.length lc', .map asks], .int .i64 0]) (by simp [results, Tryz.results139, go_sem]; (try go_simp)) rfl ⟨g1, lc', w3.heap.size + 1, cp5, rfl, hgw1, hgw2, ?_, ?_⟩
 all_goals first
  | with_reducible exact HZ.out
  | with_reducible exact HBZ.out
def log0 : LogV := ⟨none, 0, [], 0⟩
theorem info_log : (Tryz.prog.info? 217).map (fun i => (i.zero, i.size, i.bytes)) = some (some (.agg #[.slice none 0 0, .int .i64 0]), 2, 32) := by kernel_rfl
theorem own_off {w : World} {base size n : Nat} {e : TypeId} {A : Option Addr} {cap : Nat} {xs : List Value} (h : w.ownsRow base e size (.slice A n cap) n xs) {C : Nat} (hC : C < base) : OffC C n A := by
 intro hn b o e1
 obtain ⟨g, cap', e2, _, hb, _⟩ := own_some h hn
 injection e2 with e2 _ _
 rw [e1] at e2
 injection e2 with e2
 injection e2 with e2 _
 omega
theorem own_cap' {w : World} {base size n : Nat} {e : TypeId} {A : Option Addr} {cap : Nat} {xs : List Value} (h : w.ownsRow base e size (.slice A n cap) n xs) : n ≤ cap ∧ (A = none → n = 0) ∧ Rd w w.heap.size size A n xs := by
 obtain ⟨A', cap', e1, h1, _⟩ := own_slice h
 injection e1 with _ _ e3
 subst e3
 obtain ⟨A2, cap2, e4, hr⟩ := Rd.of_own h
 injection e4 with e4 _ _
 subst e4
 refine ⟨h1, fun e => ?_, hr⟩
 rcases Nat.eq_zero_or_pos n with h0 | h0
 ·exact h0
 ·obtain ⟨g, c, e2, _⟩ := own_some h h0
  injection e2 with e2 _ _
  rw [e] at e2
  cases e2
theorem lines_made (W : World) (A : Option Addr) (fc : Nat) (g : Addr) (lc n m : Nat) (ws : List W3) (hw : ws.length = n) (h1 : n ≤ fc) (h2 : A = none → n = 0) (h3 : Rd W W.heap.size 3 A n (ws.flatMap w3c)) (h4 : m ≤ lc) (h5 : Rd W W.heap.size 2 (some g) m ((List.replicate m log0).flatMap logc)) : LinesV.R W ⟨A, fc, ws, some g, lc, List.replicate m log0, none⟩ := by
 subst hw
 refine ⟨⟨h1, h2, h3⟩, ?_, (fun e => by cases e), ?_, fun y hy => ?_⟩
 ·show (List.replicate m log0).length ≤ lc
  rw [List.length_replicate]; exact h4
 ·show Rd W W.heap.size 2 (some g) (List.replicate m log0).length _
  rw [List.length_replicate]; exact h5
 ·rw [List.eq_of_mem_replicate hy]
  exact ⟨Nat.zero_le _, fun _ => rfl, Rd.nil _ _ _ _⟩
theorem lines_made_off {C fc lc m : Nat} {A g : Option Addr} {ws : List W3} (h1 : OffC C ws.length A) (h2 : OffC C (List.replicate m log0).length g) : LinesV.off C ⟨A, fc, ws, g, lc, List.replicate m log0, none⟩ := by
 refine ⟨h1, h2, fun y hy => ?_⟩
 rw [List.eq_of_mem_replicate hy]
 intro h
 exact absurd h (Nat.lt_irrefl 0)
theorem line_new (A : Option Addr) (cap n : Nat) (ws : List W3) (w : World) (hw : ws.length = n) (hr : Rd w w.heap.size 3 A n (ws.flatMap w3c)) (hA : A = none → n = 0) (hn : n ≤ 4096) :
  Calls Tryz.prog 53 #[.slice A n cap] w fun e w' => ∃ M : LinesV, e = .returned (.tuple #[(.agg #[.slice (M).fA (M).first.length (M).fc, .slice (M).lA (M).logs.length (M).lc, .map (M).asks]), .int .i64 0]) ∧ M.first = ws ∧ M.logs = List.replicate ((n + 7) / 8) log0 ∧ M.asks = none ∧ M.R w' ∧ (∀ C, C < w.heap.size → M.off C) ∧ Below w.heap.size w w' := by
 obtain ⟨i0, hi0, jz0, jz1, jz2⟩ := info_parts info_log
 have hi := hide hi0
 have iz0 := hide jz0
 have iz1 := hide jz1
 have iz2 := hide jz2
 clear hi0 jz0 jz1 jz2
 have hone : ∀ u ∈ ws.flatMap w3c, u.oneCell' = true := by
  intro u hu
  obtain ⟨y, -, hy⟩ := List.mem_flatMap.1 hu
  simp [w3c] at hy
  rcases hy with rfl | rfl | rfl <;> rfl
 have hcl := fun W (h : Rd W W.heap.size 3 A n (ws.flatMap w3c)) => clone_W A n cap (ws.flatMap w3c) W h hA hone oM
 have hg : ¬ ((n : Int) > 4096) := by omega
 have hg' : ¬ ((4096 : Int) < n) := by omega
 have e1 : wrap64 ((n : Int) + 8) = (n : Int) + 8 := by unfold wrap64; omega
 have e2 : wrap64 ((n : Int) + 8 - 1) = (n : Int) + 7 := by unfold wrap64; omega
 obtain ⟨m, hm⟩ : ∃ m, m = (n + 7) / 8 := ⟨_, rfl⟩
 have hm6 : m ≤ 1000 := by omega
 have hmv : IntKind.i64.wrap ((IntKind.i64.wrap (IntKind.i64.wrap ((n : Int) + 8) - 1)).tdiv 8) = (m : Int) := by
  rw [IntWalk.i64_in ((n : Int) + 8) oM, show (n : Int) + 8 - 1 = (n : Int) + 7 by omega, IntWalk.i64_in ((n : Int) + 7) oM, Int.tdiv_eq_ediv_of_nonneg oM, IntWalk.i64_in _ oM]
  omega
 have Hmv := hide hmv
 have Hm := hide hm
 have hx0 := made_told logc log0 2 oM (Value.agg #[.slice none 0 0, .int .i64 0]).cells rfl logc_len m
 have Hx0 := hide hx0
 clear hmv hm hx0
 have Hr := hide hr
 have Hcl := hide hcl
 have Hw := hide hw
 clear hr hcl hone hA hw
 go_enter Tryz.func53, Tryz.ntmps53
 go_wp2_with fail
 have hz0 : w.heap.size < (w.alloc (.cells #[.slice none 0 0, .slice none 0 0, .map none] 33)).heap.size := by simp
 refine wp_region_held_drew (S := (fun _ => True)) kR trivial (fun hHeld => ?_)
 refine tq1 0 ?_
 refine tq1 2 ?_
 refine tq1 3 ?_
 refine tq1 4 ?_
 refine tq1 5 ?_
 refine tq1 6 ?_
 refine wR (rs := [1, 7]) ?_
 focus
  refine aI (fun K hK => ?_) (aE fun K hK => ?_)
  focus
   go_simp
   (go_at_call 89; refine (Hcl.out _ ((Hr.out.below ab0).more (by first | omega | (simp; done) | (simp; omega)))).mono ?_; rintro e w2 ⟨A', fc', rfl, how2, hb2'⟩; have hb2 : Below _ _ w2 := ab15; have hsw2 := (hb2).size; (try simp at hsw2); have How2 := hide how2; clear how2; obtain ⟨hcc2, hff2⟩ := bcell hb2; have hz2 : w.heap.size < w2.heap.size := oM)
   go_wp2_with fail
   refine oK hK trivial fun hHeld => ?_
   clear hK K
   refine wE 7 fun K hK => ?_
   refine wp_make_rows (.tmp 14) (.tmp 14) 30 rfl 217 i0 _ 2 32 Tryz.underlying30 hi.out iz0.out iz1.out iz2.out .i64 .i64 m (by simp only [Act.eval, Act.put]; exact congrArg (Value.int .i64) Hmv.out) (by simp only [Act.eval, Act.put]; exact congrArg (Value.int .i64) Hmv.out) oM (by unfold maxLen; omega) _ Hx0.out ?_; intro w3 how3 hb3' hz3; have hb3 : Below _ _ w3 := ab17; have hsw3 := (hb3).size; (try simp at hsw3); obtain ⟨hcc3, hff3⟩ := bcell hb3; have hz3a : w.heap.size < w3.heap.size := oM
   (try go_simp)
   go_wp2_with fail
   refine oK hK trivial fun hHeld => ?_
   clear hK K
   refine tq1 8 ?_
   refine wE 9 fun K hK => ?_
   go_simp
   go_wp2_with fail
   refine oK hK trivial fun hHeld => ?_
   clear hK K
   refine tq1 10 ?_
   refine wD ?_
  rotate_left 1
  focus
   refine wp_make_rows (.tmp 14) (.tmp 14) 30 rfl 217 i0 _ 2 32 Tryz.underlying30 hi.out iz0.out iz1.out iz2.out .i64 .i64 m (by simp only [Act.eval, Act.put]; exact congrArg (Value.int .i64) Hmv.out) (by simp only [Act.eval, Act.put]; exact congrArg (Value.int .i64) Hmv.out) oM (by unfold maxLen; omega) _ Hx0.out ?_; intro w3 how3 hb3' hz3; have hb3 : Below _ _ w3 := ab17; have hsw3 := (hb3).size; (try simp at hsw3); obtain ⟨hcc3, hff3⟩ := bcell hb3; have hz3a : w.heap.size < w3.heap.size := oM
   (try go_simp)
   go_wp2_with fail
   refine oK hK trivial fun hHeld => ?_
   clear hK K
   refine wE 1 fun K hK => ?_
   go_simp
   (go_at_call 89; refine (Hcl.out _ ((Hr.out.below ab0).more (by first | omega | (simp; done) | (simp; omega)))).mono ?_; rintro e w2 ⟨A', fc', rfl, how2, hb2'⟩; have hb2 : Below _ _ w2 := ab15; have hsw2 := (hb2).size; (try simp at hsw2); have How2 := hide how2; clear how2; obtain ⟨hcc2, hff2⟩ := bcell hb2; have hz2 : w.heap.size < w2.heap.size := oM)
   go_wp2_with fail
   refine oK hK trivial fun hHeld => ?_
   clear hK K
   refine tq1 8 ?_
   refine wE 9 fun K hK => ?_
   go_simp
   go_wp2_with fail
   refine oK hK trivial fun hHeld => ?_
   clear hK K
   refine tq1 10 ?_
   refine wD ?_
  rotate_left 1
 all_goals go_wp2_with fail
 all_goals first
  | (
   have o2 := hide (own_below How2.out hb3)
   have o3 := hide how3.out
   have hB : Below w.heap.size w (((w3.setCell ⟨w.heap.size, 0, none⟩ (.slice A' n fc')).setCell ⟨w.heap.size, 1, none⟩ (.slice (some ⟨w2.heap.size, 0, none⟩) m m)).setCell ⟨w.heap.size, 2, none⟩ (.map none)) := Below.setCell (Below.setCell (Below.setCell ((Below.alloc (Below.refl w.heap.size w) (Nat.le_refl _) _).trans ((hb2.mono sM).trans (hb3.mono oM))) (Nat.le_refl _) _) (Nat.le_refl _) _) (Nat.le_refl _) _
   have off2 := hide (own_off o2.out (C := w.heap.size) (by first | omega | (simp; done) | (simp; omega)))
   have off3 := hide (own_off o3.out (C := w.heap.size) (by first | omega | (simp; done) | (simp; omega)))
   obtain ⟨c2, a2, r2⟩ := own_cap' o2.out
   obtain ⟨c3, a3, r3⟩ := own_cap' o3.out
   have r2' : Rd (((w3.setCell ⟨w.heap.size, 0, none⟩ (.slice A' n fc')).setCell ⟨w.heap.size, 1, none⟩ (.slice (some ⟨w2.heap.size, 0, none⟩) m m)).setCell ⟨w.heap.size, 2, none⟩ (.map none)) (((w3.setCell ⟨w.heap.size, 0, none⟩ (.slice A' n fc')).setCell ⟨w.heap.size, 1, none⟩ (.slice (some ⟨w2.heap.size, 0, none⟩) m m)).setCell ⟨w.heap.size, 2, none⟩ (.map none)).heap.size 3 A' n (ws.flatMap w3c) := Rd.more (Rd.set_off (Rd.set_off (Rd.set_off r2 off2.out _) off2.out _) off2.out _) sM
   have r3' : Rd (((w3.setCell ⟨w.heap.size, 0, none⟩ (.slice A' n fc')).setCell ⟨w.heap.size, 1, none⟩ (.slice (some ⟨w2.heap.size, 0, none⟩) m m)).setCell ⟨w.heap.size, 2, none⟩ (.map none)) (((w3.setCell ⟨w.heap.size, 0, none⟩ (.slice A' n fc')).setCell ⟨w.heap.size, 1, none⟩ (.slice (some ⟨w2.heap.size, 0, none⟩) m m)).setCell ⟨w.heap.size, 2, none⟩ (.map none)).heap.size 2 (some ⟨w2.heap.size, 0, none⟩) m ((List.replicate m log0).flatMap logc) := Rd.more (Rd.set_off (Rd.set_off (Rd.set_off r3 off3.out _) off3.out _) off3.out _) sM
   have hM := hide (lines_made (((w3.setCell ⟨w.heap.size, 0, none⟩ (.slice A' n fc')).setCell ⟨w.heap.size, 1, none⟩ (.slice (some ⟨w2.heap.size, 0, none⟩) m m)).setCell ⟨w.heap.size, 2, none⟩ (.map none)) A' fc' ⟨w2.heap.size, 0, none⟩ m n m ws Hw.out c2 a2 r2' c3 r3')
   have hO : Hid (∀ C, C < w.heap.size → LinesV.off C ⟨A', fc', ws, some ⟨w2.heap.size, 0, none⟩, m, List.replicate m log0, none⟩) := hide (fun C hC => lines_made_off (Hw.out.symm ▸ own_off o2.out (C := C) (by first | omega | (simp; done) | (simp; omega))) (by rw [List.length_replicate]; exact own_off o3.out (C := C) (by first | omega | (simp; done) | (simp; omega))))
   have hBh := hide hB
   clear hB r2' r3' r2 r3
   refine bodyPost_ret (v := .tuple #[.agg #[.slice A' n fc', .slice (some ⟨w2.heap.size, 0, none⟩) m m, .map none], .int .i64 0]) (by simp [results, Tryz.results53, go_sem]; (try go_simp)) rfl ⟨⟨A', fc', ws, some ⟨w2.heap.size, 0, none⟩, m, List.replicate m log0, none⟩, (by simp only [Hw.out, List.length_replicate]), rfl, (by rw [Hm.out]), rfl, ?_, hO.out, ?_⟩
   ·with_reducible exact hM.out
   ·with_reducible exact hBh.out)
  | (
   have o2 := hide How2.out
   have o3 := hide (own_below (by simpa using how3.out) hb2)
   have hB : Below w.heap.size w (((w2.setCell ⟨w.heap.size, 0, none⟩ (.slice A' n fc')).setCell ⟨w.heap.size, 1, none⟩ (.slice (some ⟨w.heap.size + 1, 0, none⟩) m m)).setCell ⟨w.heap.size, 2, none⟩ (.map none)) := Below.setCell (Below.setCell (Below.setCell ((Below.alloc (Below.refl w.heap.size w) (Nat.le_refl _) _).trans ((hb3.mono sM).trans (hb2.mono oM))) (Nat.le_refl _) _) (Nat.le_refl _) _) (Nat.le_refl _) _
   have off2 := hide (own_off o2.out (C := w.heap.size) (by first | omega | (simp; done) | (simp; omega)))
   have off3 := hide (own_off o3.out (C := w.heap.size) (by first | omega | (simp; done) | (simp; omega)))
   obtain ⟨c2, a2, r2⟩ := own_cap' o2.out
   obtain ⟨c3, a3, r3⟩ := own_cap' o3.out
   have r2' : Rd (((w2.setCell ⟨w.heap.size, 0, none⟩ (.slice A' n fc')).setCell ⟨w.heap.size, 1, none⟩ (.slice (some ⟨w.heap.size + 1, 0, none⟩) m m)).setCell ⟨w.heap.size, 2, none⟩ (.map none)) (((w2.setCell ⟨w.heap.size, 0, none⟩ (.slice A' n fc')).setCell ⟨w.heap.size, 1, none⟩ (.slice (some ⟨w.heap.size + 1, 0, none⟩) m m)).setCell ⟨w.heap.size, 2, none⟩ (.map none)).heap.size 3 A' n (ws.flatMap w3c) := Rd.more (Rd.set_off (Rd.set_off (Rd.set_off r2 off2.out _) off2.out _) off2.out _) sM
   have r3' : Rd (((w2.setCell ⟨w.heap.size, 0, none⟩ (.slice A' n fc')).setCell ⟨w.heap.size, 1, none⟩ (.slice (some ⟨w.heap.size + 1, 0, none⟩) m m)).setCell ⟨w.heap.size, 2, none⟩ (.map none)) (((w2.setCell ⟨w.heap.size, 0, none⟩ (.slice A' n fc')).setCell ⟨w.heap.size, 1, none⟩ (.slice (some ⟨w.heap.size + 1, 0, none⟩) m m)).setCell ⟨w.heap.size, 2, none⟩ (.map none)).heap.size 2 (some ⟨w.heap.size + 1, 0, none⟩) m ((List.replicate m log0).flatMap logc) := Rd.more (Rd.set_off (Rd.set_off (Rd.set_off r3 off3.out _) off3.out _) off3.out _) sM
   have hM := hide (lines_made (((w2.setCell ⟨w.heap.size, 0, none⟩ (.slice A' n fc')).setCell ⟨w.heap.size, 1, none⟩ (.slice (some ⟨w.heap.size + 1, 0, none⟩) m m)).setCell ⟨w.heap.size, 2, none⟩ (.map none)) A' fc' ⟨w.heap.size + 1, 0, none⟩ m n m ws Hw.out c2 a2 r2' c3 r3')
   have hO : Hid (∀ C, C < w.heap.size → LinesV.off C ⟨A', fc', ws, some ⟨w.heap.size + 1, 0, none⟩, m, List.replicate m log0, none⟩) := hide (fun C hC => lines_made_off (Hw.out.symm ▸ own_off o2.out (C := C) (by first | omega | (simp; done) | (simp; omega))) (by rw [List.length_replicate]; exact own_off o3.out (C := C) (by first | omega | (simp; done) | (simp; omega))))
   have hBh := hide hB
   clear hB r2' r3' r2 r3
   refine bodyPost_ret (v := .tuple #[.agg #[.slice A' n fc', .slice (some ⟨w.heap.size + 1, 0, none⟩) m m, .map none], .int .i64 0]) (by simp [results, Tryz.results53, go_sem]; (try go_simp)) rfl ⟨⟨A', fc', ws, some ⟨w.heap.size + 1, 0, none⟩, m, List.replicate m log0, none⟩, (by simp only [Hw.out, List.length_replicate]), rfl, (by rw [Hm.out]), rfl, ?_, hO.out, ?_⟩
   ·with_reducible exact hM.out
   ·with_reducible exact hBh.out)
end Go.Proofs.YtnnmenmifphadaaGreatDoor
