/- Package task: stop. -/
import Derived.Test.YtnnmenmifphadaaGreatDoorR20
import Derived.Test.YtnnmenmifphadaaGreatDoorR31
set_option linter.unusedSimpArgs false
set_option linter.unusedVariables false
set_option maxRecDepth 100000
set_option maxHeartbeats 40000000
namespace Go.Proofs.YtnnmenmifphadaaGreatDoor
open Go.RowKit Go.Maps
theorem info_boolQ : (Tryz.prog.info? 4).map (fun i => (i.zero, i.size, i.bytes)) = some (some (.bool false), 1, 1) := by kernel_rfl
theorem rd_farFrom {B size b n C : Nat} {xs : List Value} (hne : C ≠ b) : ∀ (l : List Value) (k : Nat) {w : World}, Rd w B size (some ⟨b, 0, none⟩) n xs → Rd (setFrom w C k l) B size (some ⟨b, 0, none⟩) n xs
 | [], _, _, h => h
 | x :: l, k, _, h => rd_farFrom hne l (k + 1) (Rd.set_far h hne x)
theorem wR_fill {B n : Nat} {V : WorldV} {W : World} {l : List Value} (h : V.R W) (hoff : V.off B) (hb : BoxE B n W) (k : Nat) (hk : k + l.length ≤ n) : V.R (setFrom W B k l) :=
 keep_setFrom (P := fun w => V.R w) (fun _ _ x hc h => WorldV.R.set h hoff hc x) l k hk hb h
def WorldV.halt (V : WorldV) (t G : Nat) : WorldV := ⟨V.M, V.tA, V.tc, V.ts, some ⟨G, 0, none⟩, V.ts.length, V.ss.set t true⟩
theorem world_stop (V : WorldV) (t : Nat) (w : World) (hR : V.R w) (ht : t < V.ts.length) (hn : V.ts.length ≤ 1000) (hl : V.ss.length = V.ts.length) : Calls Tryz.prog 31 #[(woV V), .int .i64 ((t : Int) + 1)] w fun e w' => ∃ G, e = .returned (woV (V.halt t G)) ∧ w.heap.size ≤ G ∧ (V.halt t G).R w' ∧ Below w.heap.size w w' := by
 obtain ⟨i0, hi, iz0, iz1, iz2⟩ := info_parts info_boolQ
 obtain ⟨n, hvn⟩ : ∃ n, n = V.ts.length := ⟨_, rfl⟩
 have HR := hide hR
 have hrd := hR.2.2.2.2
 rw [hl, ← hvn] at hrd
 have hxl : (V.ss.map Value.bool).length = n * 1 := by rw [List.length_map, hl, ← hvn, Nat.mul_one]
 have hx1 : ∀ v ∈ V.ss.map Value.bool, v.oneCell' = true := by
  intro v hv
  obtain ⟨x, -, rfl⟩ := List.mem_map.1 hv
  rfl
 have hsrc := Rd.src hrd n (Nat.le_refl _)
 have Hsrc := hide hsrc
 have Hxl := hide hxl
 have Hrd := hide hrd
 have h0 : (0 : Int) ≤ (t : Int) := by omega
 have h1 : (t : Int) < (n : Int) := by omega
 have htn : t < n := by omega
 have hn1 : n ≤ 1000 := by omega
 have hw1 : IntKind.i64.wrap ((t : Int) + 1 - 1) = (t : Int) := by rw [show (t : Int) + 1 - 1 = (t : Int) by omega]; exact IntWalk.i64_in _ oM
 have hw2 : IntKind.i64.wrap (t : Int) = (t : Int) := IntWalk.i64_in _ oM
 have hg : Hid (∀ G : Nat, ((.agg #[.slice ((V.halt t G).M).mem.pA ((V.halt t G).M).mem.hs.length ((V.halt t G).M).mem.pc, .slice ((V.halt t G).M).mem.vA ((V.halt t G).M).mem.vs.length ((V.halt t G).M).mem.vc, .slice ((V.halt t G).M).ln.fA ((V.halt t G).M).ln.first.length ((V.halt t G).M).ln.fc, .slice ((V.halt t G).M).ln.lA ((V.halt t G).M).ln.logs.length ((V.halt t G).M).ln.lc, .map ((V.halt t G).M).ln.asks, .slice ((V.halt t G).M).sA ((V.halt t G).M).steps.length ((V.halt t G).M).sc, .int .i64 ((V.halt t G).M).crashes, .slice (V.halt t G).tA (V.halt t G).ts.length (V.halt t G).tc, .slice (V.halt t G).sA (V.halt t G).ss.length (V.halt t G).sc]) : Value) = (.agg #[.slice V.M.mem.pA V.M.mem.hs.length V.M.mem.pc, .slice V.M.mem.vA V.M.mem.vs.length V.M.mem.vc, .slice V.M.ln.fA V.M.ln.first.length V.M.ln.fc, .slice V.M.ln.lA V.M.ln.logs.length V.M.ln.lc, .map V.M.ln.asks, .slice V.M.sA V.M.steps.length V.M.sc, .int .i64 V.M.crashes, .slice V.tA n V.tc, .slice (some ⟨G, 0, none⟩) n n])) := hide (fun G => by simp only [WorldV.halt, List.length_set, hl, ← hvn])
 show Calls Tryz.prog 31 #[(.agg #[.slice ((V).M).mem.pA ((V).M).mem.hs.length ((V).M).mem.pc, .slice ((V).M).mem.vA ((V).M).mem.vs.length ((V).M).mem.vc, .slice ((V).M).ln.fA ((V).M).ln.first.length ((V).M).ln.fc, .slice ((V).M).ln.lA ((V).M).ln.logs.length ((V).M).ln.lc, .map ((V).M).ln.asks, .slice ((V).M).sA ((V).M).steps.length ((V).M).sc, .int .i64 ((V).M).crashes, .slice (V).tA (V).ts.length (V).tc, .slice (V).sA (V).ss.length (V).sc]), .int .i64 ((t : Int) + 1)] w _
 rw [hl]
 simp only [← hvn]
 have Hvn := hide hvn
 have Hl := hide hl
 clear hrd hsrc hxl hvn hR ht hn hl
 go_enter Tryz.func31, Tryz.ntmps31
 go_upto_region 3 with (first
  | (at_make; refine wpList_make_full _ rfl _ _ 38 rfl w.heap.size 4 i0 _ 1 Tryz.underlying38 hi iz0 iz1 _ _ _ _ n rfl rfl rfl rfl (by rw [iz2]; omega) (by unfold maxLen; omega) (by simp; omega) ?_; intro w1 hown hgr; have hb1 := Below.grown (Below.refl _ _) hgr (Nat.le_refl _) (fun k hk => by cases hk); obtain ⟨hcc1, hff1, hs1⟩ := bC hb1; (try simp at hs1); obtain ⟨hrow, -⟩ := row_of_own hown; have hmz : (madeCells (Value.bool false).cells (n * 1)).toList.length = n * 1 := hown.1; obtain ⟨cur, hcur⟩ : ∃ cur, cur = (madeCells (Value.bool false).cells (n * 1)).toList := ⟨_, rfl⟩; rw [← hcur] at hrow hmz; have hrow1 : w1.heap[w.heap.size + 1 + 1]? = some (.cells cur.toArray 4 (0, 0)) := (by simpa using hrow); have Hrow := hide hrow1; have Hmz := hide hmz; have hlt1 : w.heap.size + 1 + 1 < w1.heap.size := (Array.getElem?_eq_some_iff.1 hrow1).1; have hB1 : Below w.heap.size w w1 := (by first | exact ab0); clear hrow1 hrow hown hgr hcur hmz; have hz1 : w.heap.size < w1.heap.size := oM)
  | (refine wpList_copy_rows rfl (.tmp 10) (.tmp 12) 38 38 rfl 4 Tryz.underlying38 i0 hi 1 iz1 _ _ _ _ _ _ rfl rfl (w.heap.size + 1 + 1) 0 cur 4 Hrow.out (V.ss.map Value.bool) n (Nat.min_self _).symm Hxl.out (fun h0 => ⟨rfl, by obtain ⟨ad, e, hc⟩ := Hsrc.out h0; refine ⟨ad, e, fun j v hv => ?_⟩; rw [List.take_of_length_le (by rw [Hxl.out]; omega)] at hc; exact (hB1.cell (by obtain ⟨b, off, e2, hb, _⟩ := Hrd.out.2 oM; rw [e] at e2; injection e2 with e2; subst e2; unfold Addr.add; split <;> exact hb)).trans (hc j v hv)⟩) (by rw [Hxl.out, Hmz.out]; omega) hx1 (w.heap.size + 1 + 1) w1 (Below.refl _ _) (Nat.le_refl _) ?_; intro w2 hrow2 hB2; rw [splice_whole cur (V.ss.map Value.bool) (by rw [Hxl.out, Hmz.out])] at hrow2; have hcc2 : ∀ b o, b < w.heap.size + 1 + 1 → w2.cell? ⟨b, o, none⟩ = w1.cell? ⟨b, o, none⟩ := (bcellB hB2).1; have hff2 : ∀ b o, b < w.heap.size + 1 + 1 → w2.frozen? ⟨b, o, none⟩ = w1.frozen? ⟨b, o, none⟩ := (bcellB hB2).2; have hlt2 : w.heap.size + 1 + 1 < w2.heap.size := (Array.getElem?_eq_some_iff.1 hrow2.out).1; have hRd2 : Hid (Rd w2 w2.heap.size 1 (some ⟨w.heap.size + 1 + 1, 0, none⟩) n (V.ss.map Value.bool)) := hide (rd_of_row hrow2.out Hxl.out); have hfz : ∀ o, w2.frozen? ⟨w.heap.size + 1 + 1, o, none⟩ = false := (frozen_of_row hrow2.out); obtain ⟨u0, hu0⟩ : ∃ u, w2.cell? ⟨w.heap.size + 1 + 1, t, none⟩ = some u := cell_of_row hrow2.out (by rw [Hxl.out]; omega)))
 have p0 : w2.cell? ⟨w.heap.size, 0, none⟩ = some (.slice V.M.mem.pA V.M.mem.hs.length V.M.mem.pc) := by go_simp
 have p1 : w2.cell? ⟨w.heap.size, 1, none⟩ = some (.slice V.M.mem.vA V.M.mem.vs.length V.M.mem.vc) := by go_simp
 have p2 : w2.cell? ⟨w.heap.size, 2, none⟩ = some (.slice V.M.ln.fA V.M.ln.first.length V.M.ln.fc) := by go_simp
 have p3 : w2.cell? ⟨w.heap.size, 3, none⟩ = some (.slice V.M.ln.lA V.M.ln.logs.length V.M.ln.lc) := by go_simp
 have p4 : w2.cell? ⟨w.heap.size, 4, none⟩ = some (.map V.M.ln.asks) := by go_simp
 have p5 : w2.cell? ⟨w.heap.size, 5, none⟩ = some (.slice V.M.sA V.M.steps.length V.M.sc) := by go_simp
 have p6 : w2.cell? ⟨w.heap.size, 6, none⟩ = some (.int .i64 V.M.crashes) := by go_simp
 have p7 : w2.cell? ⟨w.heap.size, 7, none⟩ = some (.slice V.tA n V.tc) := by go_simp
 have p8 : w2.cell? ⟨w.heap.size, 8, none⟩ = some (.slice V.sA n V.sc) := by go_simp
 have z0 : w2.cell? ⟨w.heap.size + 1, 0, none⟩ = some (.slice none 0 0) := by go_simp
 have z1 : w2.cell? ⟨w.heap.size + 1, 1, none⟩ = some (.slice none 0 0) := by go_simp
 have z2 : w2.cell? ⟨w.heap.size + 1, 2, none⟩ = some (.slice none 0 0) := by go_simp
 have z3 : w2.cell? ⟨w.heap.size + 1, 3, none⟩ = some (.slice none 0 0) := by go_simp
 have z4 : w2.cell? ⟨w.heap.size + 1, 4, none⟩ = some (.map none) := by go_simp
 have z5 : w2.cell? ⟨w.heap.size + 1, 5, none⟩ = some (.slice none 0 0) := by go_simp
 have z6 : w2.cell? ⟨w.heap.size + 1, 6, none⟩ = some (.int .i64 0) := by go_simp
 have z7 : w2.cell? ⟨w.heap.size + 1, 7, none⟩ = some (.slice none 0 0) := by go_simp
 have z8 : w2.cell? ⟨w.heap.size + 1, 8, none⟩ = some (.slice none 0 0) := by go_simp
 have fp : ∀ o, w2.frozen? ⟨w.heap.size, o, none⟩ = false := by intro o; go_simp
 have fz : ∀ o, w2.frozen? ⟨w.heap.size + 1, o, none⟩ = false := by intro o; go_simp
 have hB3 : Below w.heap.size w w2 := hB1.trans (hB2.mono oM)
 have hne : w.heap.size + 1 + 1 ≠ w.heap.size := by omega
 have hne1 : w.heap.size + 1 + 1 ≠ w.heap.size + 1 := by omega
 have hne2 : w.heap.size ≠ w.heap.size + 1 := by omega
 have HRd2 := hRd2
 have HB3 := hide hB3
 have hz2 : w.heap.size < w2.heap.size := by omega
 have hz3 : w.heap.size + 1 < w2.heap.size := by omega
 have e9 : (w2.setCell ⟨w.heap.size + 1 + 1, t, none⟩ (.bool true)).cell? ⟨w.heap.size, 8, none⟩ = some (.slice V.sA n V.sc) := by go_simp
 have e8 : (w2.setCell ⟨w.heap.size + 1 + 1, t, none⟩ (.bool true)).frozen? ⟨w.heap.size, 8, none⟩ = false := by go_simp
 obtain ⟨wA, hwA⟩ : ∃ W : World, W = (w2.setCell ⟨w.heap.size + 1 + 1, t, none⟩ (.bool true)).setCell ⟨w.heap.size, 8, none⟩ (.slice (some ⟨w.heap.size + 1 + 1, 0, none⟩) n n) := ⟨_, rfl⟩
 have hsA : wA.heap.size = w2.heap.size := by rw [hwA]; simp
 have q0 : wA.cell? ⟨w.heap.size, 0, none⟩ = some (.slice V.M.mem.pA V.M.mem.hs.length V.M.mem.pc) := by rw [hwA]; go_simp
 have q1 : wA.cell? ⟨w.heap.size, 1, none⟩ = some (.slice V.M.mem.vA V.M.mem.vs.length V.M.mem.vc) := by rw [hwA]; go_simp
 have q2 : wA.cell? ⟨w.heap.size, 2, none⟩ = some (.slice V.M.ln.fA V.M.ln.first.length V.M.ln.fc) := by rw [hwA]; go_simp
 have q3 : wA.cell? ⟨w.heap.size, 3, none⟩ = some (.slice V.M.ln.lA V.M.ln.logs.length V.M.ln.lc) := by rw [hwA]; go_simp
 have q4 : wA.cell? ⟨w.heap.size, 4, none⟩ = some (.map V.M.ln.asks) := by rw [hwA]; go_simp
 have q5 : wA.cell? ⟨w.heap.size, 5, none⟩ = some (.slice V.M.sA V.M.steps.length V.M.sc) := by rw [hwA]; go_simp
 have q6 : wA.cell? ⟨w.heap.size, 6, none⟩ = some (.int .i64 V.M.crashes) := by rw [hwA]; go_simp
 have q7 : wA.cell? ⟨w.heap.size, 7, none⟩ = some (.slice V.tA n V.tc) := by rw [hwA]; go_simp
 have q8 : wA.cell? ⟨w.heap.size, 8, none⟩ = some (.slice (some ⟨w.heap.size + 1 + 1, 0, none⟩) n n) := by rw [hwA]; go_simp
 have y0 : wA.cell? ⟨w.heap.size + 1, 0, none⟩ = some (.slice none 0 0) := by rw [hwA]; go_simp
 have y1 : wA.cell? ⟨w.heap.size + 1, 1, none⟩ = some (.slice none 0 0) := by rw [hwA]; go_simp
 have y2 : wA.cell? ⟨w.heap.size + 1, 2, none⟩ = some (.slice none 0 0) := by rw [hwA]; go_simp
 have y3 : wA.cell? ⟨w.heap.size + 1, 3, none⟩ = some (.slice none 0 0) := by rw [hwA]; go_simp
 have y4 : wA.cell? ⟨w.heap.size + 1, 4, none⟩ = some (.map none) := by rw [hwA]; go_simp
 have y5 : wA.cell? ⟨w.heap.size + 1, 5, none⟩ = some (.slice none 0 0) := by rw [hwA]; go_simp
 have y6 : wA.cell? ⟨w.heap.size + 1, 6, none⟩ = some (.int .i64 0) := by rw [hwA]; go_simp
 have y7 : wA.cell? ⟨w.heap.size + 1, 7, none⟩ = some (.slice none 0 0) := by rw [hwA]; go_simp
 have y8 : wA.cell? ⟨w.heap.size + 1, 8, none⟩ = some (.slice none 0 0) := by rw [hwA]; go_simp
 have fy : ∀ o, wA.frozen? ⟨w.heap.size + 1, o, none⟩ = false := by intro o; rw [hwA]; go_simp
 have hRA : V.R wA := by
  rw [hwA]
  exact WorldV.R.set (WorldV.R.set (HR.out.below hB3) (WorldV.off_new HR.out oM) (HasC.of hu0) _) (WorldV.off_new HR.out (Nat.le_refl _)) (HasC.set (HasC.of p8) _) _
 have hBA : Below w.heap.size w wA := by
  rw [hwA]
  exact Below.setCell (Below.setCell hB3 (p := ⟨w.heap.size + 1 + 1, t, none⟩) ab4 _) (p := ⟨w.heap.size, 8, none⟩) (Nat.le_refl _) _
 have hrA : Rd wA w2.heap.size 1 (some ⟨w.heap.size + 1 + 1, 0, none⟩) n ((V.ss.set t true).map Value.bool) := by
  rw [hwA]
  exact Rd.set_far (Rd.set HRd2.out htn true) oM _
 have HRA := hide hRA
 have HBA := hide hBA
 have HrA := hide hrA
 have fq : ∀ o, wA.frozen? ⟨w.heap.size, o, none⟩ = false := by intro o; rw [hwA]; go_simp
 have hE : BoxE (w.heap.size + 1) 9 wA := ⟨[.slice none 0 0, .slice none 0 0, .slice none 0 0, .slice none 0 0, .map none, .slice none 0 0, .int .i64 0, .slice none 0 0, .slice none 0 0], rfl, ⟨(fun j u hu => by
  match j, hu with
  | 0, hu => injection hu with hu; subst hu; exact y0
  | 1, hu => injection hu with hu; subst hu; exact y1
  | 2, hu => injection hu with hu; subst hu; exact y2
  | 3, hu => injection hu with hu; subst hu; exact y3
  | 4, hu => injection hu with hu; subst hu; exact y4
  | 5, hu => injection hu with hu; subst hu; exact y5
  | 6, hu => injection hu with hu; subst hu; exact y6
  | 7, hu => injection hu with hu; subst hu; exact y7
  | 8, hu => injection hu with hu; subst hu; exact y8
  | j + 9, hu => exact absurd hu sM), fy, by omega⟩⟩
 have HE := hide hE
 have hlA1 : w2.heap.size ≤ wA.heap.size := by omega
 have hlA2 : wA.heap.size ≤ w2.heap.size := by omega
 clear hRA hBA hrA hE hsA hB3 hb1 hB1 hB2 hcc1 hff1
 go_upto_region 5 with fail
 rw [← hwA]
 clear hwA p0 p1 p2 p3 p4 p5 p6 p7 p8 z0 z1 z2 z3 z4 z5 z6 z7 z8 fp fz hfz hu0 hcc2 hff2 hrow2 Hrow Hmz hRd2
 go_wp2_with fail
 obtain ⟨wF, hwF⟩ : ∃ W : World, W = setFrom wA (w.heap.size + 1) 0 [.slice V.M.mem.pA V.M.mem.hs.length V.M.mem.pc, .slice V.M.mem.vA V.M.mem.vs.length V.M.mem.vc, .slice V.M.ln.fA V.M.ln.first.length V.M.ln.fc, .slice V.M.ln.lA V.M.ln.logs.length V.M.ln.lc, .map V.M.ln.asks, .slice V.M.sA V.M.steps.length V.M.sc, .int .i64 V.M.crashes, .slice V.tA n V.tc, .slice (some ⟨w.heap.size + 1 + 1, 0, none⟩) n n] := ⟨_, rfl⟩
 have hRF : V.R wF := by rw [hwF]; exact wR_fill HRA.out (WorldV.off_new HR.out oM) HE.out 0 sM
 have hBF : Below w.heap.size w wF := by rw [hwF]; exact below_setFrom oM _ _ HBA.out
 have hrF : Rd wF w2.heap.size 1 (some ⟨w.heap.size + 1 + 1, 0, none⟩) n ((V.ss.set t true).map Value.bool) := by rw [hwF]; exact rd_farFrom oM _ _ HrA.out
 have hsF : w2.heap.size ≤ wF.heap.size := by rw [hwF, setFrom_size]; omega
 simp only [setFrom, Nat.zero_add, Nat.reduceAdd] at hwF
 refine bodyPost_ret (v := .agg #[.slice V.M.mem.pA V.M.mem.hs.length V.M.mem.pc, .slice V.M.mem.vA V.M.mem.vs.length V.M.mem.vc, .slice V.M.ln.fA V.M.ln.first.length V.M.ln.fc, .slice V.M.ln.lA V.M.ln.logs.length V.M.ln.lc, .map V.M.ln.asks, .slice V.M.sA V.M.steps.length V.M.sc, .int .i64 V.M.crashes, .slice V.tA n V.tc, .slice (some ⟨w.heap.size + 1 + 1, 0, none⟩) n n]) (by simp [results, Tryz.results31, go_sem]; (try go_simp)) rfl ⟨w.heap.size + 1 + 1, ?_, by omega, ?_, ?_⟩
 ·exact congrArg Ending.returned (hg.out _).symm
 ·rw [← hwF]
  have e1 : (V.ss.set t true).length = n := by rw [List.length_set, Hl.out, Hvn.out]
  refine ⟨hRF.1, hRF.2.1, ?_⟩
  show (V.ss.set t true).length ≤ V.ts.length ∧ ((some ⟨w.heap.size + 1 + 1, 0, none⟩ : Option Addr) = none → (V.ss.set t true).length = 0) ∧ Rd wF wF.heap.size 1 (some ⟨w.heap.size + 1 + 1, 0, none⟩) (V.ss.set t true).length ((V.ss.set t true).map Value.bool)
  rw [e1, ← Hvn.out]
  exact ⟨Nat.le_refl _, (fun e => by cases e), hrF.more hsF⟩
 ·rw [← hwF]
  exact hBF
theorem world_Step_stop (V : WorldV) (t : Nat) (ch : Int) (w : World) (E : WorldV → Prop) (hR : V.R w) (hth : 0 < V.M.mem.vs.length) (htk : ∀ W, V.R W → Calls Tryz.prog 29 #[(woV V), .int .i64 ((t : Int) + 1)] W (Ret (.bool true) W)) (hst : ∀ W, Below w.heap.size w W → V.R W → Calls Tryz.prog 31 #[(woV V), .int .i64 ((t : Int) + 1)] W fun e w' => ∃ V2 : WorldV, e = .returned (woV V2) ∧ E V2 ∧ V2.R w' ∧ (∀ C, C < W.heap.size → V.off C → V2.off C) ∧ Below W.heap.size W w') :
  Calls Tryz.prog 13 #[(woV V), .agg #[.int .i64 1, .int .i64 ((t : Int) + 1), .int .i64 ch]] w fun e w' => ∃ V2 : WorldV, e = .returned (.tuple #[(woV V2), .bool true]) ∧ E V2 ∧ V2.R w' ∧ (∀ C, C < w.heap.size → V.off C → V2.off C) ∧ Below w.heap.size w w' := by
 have hd := fun W => world_dead V W hth
 have Hd := hide hd
 have Htk := hide htk
 have Hst := hide hst
 have HR := hide hR
 clear hd htk hR hst
 go_enter Tryz.func13, Tryz.ntmps13
 go_wp2_with (first
  | (go_at_call 27; refine (Hd.out _).mono ?_; rintro e w1 ⟨rfl, hb1⟩; obtain ⟨hcc1, hff1, hs1⟩ := bC hb1; (try simp at hs1); have hzw10 : w.heap.size < w1.heap.size := oM; have hzw11 : w.heap.size + 1 < w1.heap.size := oM; have hzw12 : w.heap.size + 1 + 1 < w1.heap.size := oM)
  | (go_at_call 29; refine (Htk.out _ (HR.out.below ab0)).mono ?_; rintro e w2 ⟨rfl, hb2⟩; obtain ⟨hcc2, hff2, hs2⟩ := bC hb2; (try simp at hs2); have hzw20 : w.heap.size < w2.heap.size := oM; have hzw21 : w.heap.size + 1 < w2.heap.size := oM; have hzw22 : w.heap.size + 1 + 1 < w2.heap.size := oM)
  | (go_at_call 31; refine (Hst.out _ (ab0) (HR.out.below ab0)).mono ?_; rintro e w3 ⟨V2, rfl, hE, hR3, hoff3, hb3⟩; obtain ⟨hcc3, hff3, hs3⟩ := bC hb3; (try simp at hs3); have HE := hide hE; have HR3 := hide hR3; have Hoff3 := hide hoff3; clear hE hR3 hoff3; have hzw30 : w.heap.size < w3.heap.size := oM; have hzw31 : w.heap.size + 1 < w3.heap.size := oM; have hzw32 : w.heap.size + 1 + 1 < w3.heap.size := oM))
 have r0 : w3.cell? ⟨w.heap.size + 1 + 1, 0, none⟩ = some (.slice none 0 0) := by go_simp
 have r1 : w3.cell? ⟨w.heap.size + 1 + 1, 1, none⟩ = some (.slice none 0 0) := by go_simp
 have r2 : w3.cell? ⟨w.heap.size + 1 + 1, 2, none⟩ = some (.slice none 0 0) := by go_simp
 have r3 : w3.cell? ⟨w.heap.size + 1 + 1, 3, none⟩ = some (.slice none 0 0) := by go_simp
 have r4 : w3.cell? ⟨w.heap.size + 1 + 1, 4, none⟩ = some (.map none) := by go_simp
 have r5 : w3.cell? ⟨w.heap.size + 1 + 1, 5, none⟩ = some (.slice none 0 0) := by go_simp
 have r6 : w3.cell? ⟨w.heap.size + 1 + 1, 6, none⟩ = some (.int .i64 0) := by go_simp
 have r7 : w3.cell? ⟨w.heap.size + 1 + 1, 7, none⟩ = some (.slice none 0 0) := by go_simp
 have r8 : w3.cell? ⟨w.heap.size + 1 + 1, 8, none⟩ = some (.slice none 0 0) := by go_simp
 have hBW : Below w.heap.size w w3 := ab0
 have oV := Hoff3.out (w.heap.size + 1 + 1) (by first | omega | (simp; done) | (simp; omega)) (WorldV.off_new HR.out oM)
 have HZ := hide (WorldV.R.set (WorldV.R.set (WorldV.R.set (WorldV.R.set (WorldV.R.set (WorldV.R.set (WorldV.R.set (WorldV.R.set (WorldV.R.set HR3.out oV (.of r0) (.slice V2.M.mem.pA V2.M.mem.hs.length V2.M.mem.pc)) oV (.set (.of r1) _) (.slice V2.M.mem.vA V2.M.mem.vs.length V2.M.mem.vc)) oV (.set (.set (.of r2) _) _) (.slice V2.M.ln.fA V2.M.ln.first.length V2.M.ln.fc)) oV (.set (.set (.set (.of r3) _) _) _) (.slice V2.M.ln.lA V2.M.ln.logs.length V2.M.ln.lc)) oV (.set (.set (.set (.set (.of r4) _) _) _) _) (.map V2.M.ln.asks)) oV (.set (.set (.set (.set (.set (.of r5) _) _) _) _) _) (.slice V2.M.sA V2.M.steps.length V2.M.sc)) oV (.set (.set (.set (.set (.set (.set (.of r6) _) _) _) _) _) _) (.int .i64 V2.M.crashes)) oV (.set (.set (.set (.set (.set (.set (.set (.of r7) _) _) _) _) _) _) _) (.slice V2.tA V2.ts.length V2.tc)) oV (.set (.set (.set (.set (.set (.set (.set (.set (.of r8) _) _) _) _) _) _) _) _) (.slice V2.sA V2.ss.length V2.sc))
 have HB := hide (Below.setCell (Below.setCell (Below.setCell (Below.setCell (Below.setCell (Below.setCell (Below.setCell (Below.setCell (Below.setCell hBW (p := ⟨w.heap.size + 1 + 1, 0, none⟩) ab4 (.slice V2.M.mem.pA V2.M.mem.hs.length V2.M.mem.pc)) (p := ⟨w.heap.size + 1 + 1, 1, none⟩) ab4 (.slice V2.M.mem.vA V2.M.mem.vs.length V2.M.mem.vc)) (p := ⟨w.heap.size + 1 + 1, 2, none⟩) ab4 (.slice V2.M.ln.fA V2.M.ln.first.length V2.M.ln.fc)) (p := ⟨w.heap.size + 1 + 1, 3, none⟩) ab4 (.slice V2.M.ln.lA V2.M.ln.logs.length V2.M.ln.lc)) (p := ⟨w.heap.size + 1 + 1, 4, none⟩) ab4 (.map V2.M.ln.asks)) (p := ⟨w.heap.size + 1 + 1, 5, none⟩) ab4 (.slice V2.M.sA V2.M.steps.length V2.M.sc)) (p := ⟨w.heap.size + 1 + 1, 6, none⟩) ab4 (.int .i64 V2.M.crashes)) (p := ⟨w.heap.size + 1 + 1, 7, none⟩) ab4 (.slice V2.tA V2.ts.length V2.tc)) (p := ⟨w.heap.size + 1 + 1, 8, none⟩) ab4 (.slice V2.sA V2.ss.length V2.sc))
 refine bodyPost_ret (v := .tuple #[.agg #[.slice V2.M.mem.pA V2.M.mem.hs.length V2.M.mem.pc, .slice V2.M.mem.vA V2.M.mem.vs.length V2.M.mem.vc, .slice V2.M.ln.fA V2.M.ln.first.length V2.M.ln.fc, .slice V2.M.ln.lA V2.M.ln.logs.length V2.M.ln.lc, .map V2.M.ln.asks, .slice V2.M.sA V2.M.steps.length V2.M.sc, .int .i64 V2.M.crashes, .slice V2.tA V2.ts.length V2.tc, .slice V2.sA V2.ss.length V2.sc], .bool true]) (by simp [results, Tryz.results13, go_sem]; (try go_simp)) rfl ⟨V2, rfl, HE.out, ?_, (fun C hC h => Hoff3.out C (by first | omega | (simp; done) | (simp; omega)) h), ?_⟩
 ·with_reducible exact HZ.out
 ·with_reducible exact HB.out
end Go.Proofs.YtnnmenmifphadaaGreatDoor
