/- Package simulcastlaw59: World at an input that is too large. -/
import Derived.Test.YtnnmenmifphadaaGreatDoorT46
set_option linter.unusedSimpArgs false
set_option linter.unusedVariables false
set_option maxRecDepth 100000
set_option maxHeartbeats 40000000
namespace Go.Proofs.YtnnmenmifphadaaGreatDoor
open Go.RowKit Go.Maps Go.Sort
theorem world_no (A : Option Addr) (n cap : Nat) (x : ActsV) (w : World) (hb : (∃ k, k < 3 ∧ 4 < (x.l k).length) ∨ 7 < x.tot 3 ∨ n = 0 ∨ 12 < n) :
  Calls Tryz.prog 7 #[.slice A n cap, .agg #[x.sl 0, x.sl 1, x.sl 2]] w (Ret (.tuple #[.agg #[.slice none 0 0, .slice none 0 0, .slice none 0 0, .slice none 0 0, .map none, .slice none 0 0, .int .i64 0, .slice none 0 0, .slice none 0 0], .bool false]) w) := by
 obtain ⟨i0, hi0, jz0, jz1, jz2⟩ := info_parts info_code59
 have hi := hide hi0
 have iz0 := hide jz0
 have iz1 := hide jz1
 have iz2 := hide jz2
 have Hb := hide hb
 clear hb hi0 jz0 jz1 jz2
 go_enter Tryz.func7, Tryz.ntmps7
 go_wp2_with fail
 obtain ⟨w1, hw1⟩ : ∃ W : World, W = (w.alloc (.cells #[x.sl 0, x.sl 1, x.sl 2] 25)).alloc (.cells #[.slice none 0 0, .slice none 0 0, .slice none 0 0, .slice none 0 0, .map none, .slice none 0 0, .int .i64 0, .slice none 0 0, .slice none 0 0] 40) := ⟨_, rfl⟩
 have hB1 : Below w.heap.size w w1 := by rw [hw1]; exact ab0
 have hs1 : w.heap.size + 1 + 1 ≤ w1.heap.size := by rw [hw1]; simp
 have hC : BoxC (w.heap.size + 1) [.slice none 0 0, .slice none 0 0, .slice none 0 0, .slice none 0 0, .map none, .slice none 0 0, .int .i64 0, .slice none 0 0, .slice none 0 0] w1 := by rw [hw1]; have q := BoxC.made (w.alloc (.cells #[x.sl 0, x.sl 1, x.sl 2] 25)) #[.slice none 0 0, .slice none 0 0, .slice none 0 0, .slice none 0 0, .map none, .slice none 0 0, .int .i64 0, .slice none 0 0, .slice none 0 0] 40; simpa using q
 have HC := hide hC
 clear hC
 rw [← hw1]
 clear hw1
 go_loopw [15, 6, 7] (fun i m v wr => ∃ (k : Nat) (z : Int), i = .int .i64 z ∧ z = k ∧ k ≤ 3 ∧ m = .int .i64 (x.tot k) ∧ wr.ownsRow w1.heap.size 71 1 v k ((List.range k).map x.cv) ∧ Hid (∀ j, j < k → (x.l j).length ≤ 4) ∧ Hid (Below w1.heap.size w1 wr)) (fun i _ _ _ => 3 - (intOf i).toNat)
 case atStart => exact ⟨0, 0, rfl, rfl, by omega, rfl, World.ownsRow_nil _ _ _ _, hide (fun j h => absurd h oM), hide (Below.refl _ _)⟩
 case round =>
  obtain ⟨k, z, rfl, hz, hk, rfl, hown, H4, HB⟩ := hrel
  by_cases hlt : z < 3
  ·have hk3 : k < 3 := by omega
   have hB0 : Below w1.heap.size w1 wr := HB.out
   have hB0w : Below w.heap.size w wr := hB1.trans (hB0.mono hB1.size)
   have hsr := HB.out.size
   have hidx : (Instr.index 25 (.agg #[x.sl 0, x.sl 1, x.sl 2]) (.int .i64 (k : Int))).run Tryz.prog wr = .ok (.slice (x.A k) (x.l k).length (x.c k)) wr := by
    have h3 : k = 0 ∨ k = 1 ∨ k = 2 := by omega
    rcases h3 with rfl | rfl | rfl <;> rfl
   by_cases hle : 4 < (x.l k).length
   ·have g1 : ((x.l k).length : Int) > 4 := by omega
    have g2 : (4 : Int) < ((x.l k).length : Int) := by omega
    clear hown HB H4 hle
    have hzC : w.heap.size + 1 < w1.heap.size := by omega
    have hzD : w.heap.size + 1 < wr.heap.size := by omega
    have c0 := (hB0.cell (p := ⟨w.heap.size + 1, 0, none⟩) hzC).trans (HC.out.at (j := 0) rfl)
    have c1 := (hB0.cell (p := ⟨w.heap.size + 1, 1, none⟩) hzC).trans (HC.out.at (j := 1) rfl)
    have c2 := (hB0.cell (p := ⟨w.heap.size + 1, 2, none⟩) hzC).trans (HC.out.at (j := 2) rfl)
    have c3 := (hB0.cell (p := ⟨w.heap.size + 1, 3, none⟩) hzC).trans (HC.out.at (j := 3) rfl)
    have c4 := (hB0.cell (p := ⟨w.heap.size + 1, 4, none⟩) hzC).trans (HC.out.at (j := 4) rfl)
    have c5 := (hB0.cell (p := ⟨w.heap.size + 1, 5, none⟩) hzC).trans (HC.out.at (j := 5) rfl)
    have c6 := (hB0.cell (p := ⟨w.heap.size + 1, 6, none⟩) hzC).trans (HC.out.at (j := 6) rfl)
    have c7 := (hB0.cell (p := ⟨w.heap.size + 1, 7, none⟩) hzC).trans (HC.out.at (j := 7) rfl)
    have c8 := (hB0.cell (p := ⟨w.heap.size + 1, 8, none⟩) hzC).trans (HC.out.at (j := 8) rfl)
    have fz2 : ∀ o, wr.frozen? ⟨w.heap.size + 1, o, none⟩ = false := fun o => (hB0.frozen (p := ⟨w.heap.size + 1, o, none⟩) hzC).trans (HC.out.2.1 o)
    go_wp2_with fail
    refine bodyPost_ret (v := .tuple #[.agg #[.slice none 0 0, .slice none 0 0, .slice none 0 0, .slice none 0 0, .map none, .slice none 0 0, .int .i64 0, .slice none 0 0, .slice none 0 0], .bool false]) (by simp [results, Tryz.results7, go_sem]; (try go_simp)) rfl ⟨rfl, ?_⟩
    exact ab0
   have h5 : ∀ j, j < k + 1 → (x.l j).length ≤ 4 := fun j hj => by
    by_cases e : j = k
    ·subst e; omega
    ·exact H4.out j oM
   have H5 := hide h5
   have hle1 : ¬ (((x.l k).length : Int) > 4) := by omega
   have hle' : ¬ ((4 : Int) < ((x.l k).length : Int)) := by omega
   have hsum : ((x.tot k : Nat) : Int) + ((x.l k).length : Int) = ((x.tot (k + 1) : Nat) : Int) := by rw [x.tot_succ]; omega
   have htb : x.tot (k + 1) ≤ 12 := by
    have e4 := x.tot_succ 0
    have e5 := x.tot_succ 1
    have e6 := x.tot_succ 2
    have e7 : x.tot 0 = 0 := rfl
    have h3 : k = 0 ∨ k = 1 ∨ k = 2 := by omega
    rcases h3 with rfl | rfl | rfl
    ·have e1 := h5 0 oM
     simp only [Nat.zero_add, Nat.reduceAdd] at e4 e5 e6 ⊢
     omega
    ·have e1 := h5 0 oM
     have e2 := h5 1 oM
     simp only [Nat.zero_add, Nat.reduceAdd] at e4 e5 e6 ⊢
     omega
    ·have e1 := h5 0 oM
     have e2 := h5 1 oM
     have e3 := h5 2 oM
     simp only [Nat.zero_add, Nat.reduceAdd] at e4 e5 e6 ⊢
     omega
   have hwr : IntKind.i64.wrap (((x.tot k : Nat) : Int) + ((x.l k).length : Int)) = ((x.tot (k + 1) : Nat) : Int) := by rw [hsum]; exact IntWalk.i64_in _ oM
   have Hown := hide hown
   obtain ⟨A9, c9, rfl, hc9, hA9⟩ := own_slice hown
   clear hown HB
   clear h5 H4 hle
   go_wp2_with (first
    | (at_builtin; (refine wpList_append_own _ rfl _ _ 78 rfl w1.heap.size 71 i0 _ 1 16 Tryz.underlying78 hi.out iz0.out iz1.out iz2.out rfl dM (.slice A9 k c9) k ((List.range k).map x.cv) rfl (own_below Hown.out ab0) ⟨wr.heap.size, 0, none⟩ 1 1 [x.cv k] rfl rfl ?o2 ?o3 ?o4 ?o5 ?o6 ?_)))
   case o2 => exact fun j u h => h
   case o3 => rfl
   case o4 => unfold maxLen; omega
   case o5 => omega
   case o6 => exact (by first | omega | (simp; done) | (simp; omega))
   intro v5 w5 how5 hg5 _
   have hB5 : Below w1.heap.size w1 w5 := below_grown (hB0.trans (ab0)) hg5 (own_below Hown.out ab0) (Nat.le_refl _) (by simp; omega)
   have How5 := hide how5
   have HB5 := hide hB5
   clear how5 hB5 hg5
   go_wp2_with fail
   first
    | exact ⟨⟨k + 1, (k : Int) + 1, by go_num, by omega, by omega, rfl, by rw [List.range_succ, List.map_append]; exact How5.out, H5, HB5⟩, by simp [intOf]; omega⟩
    | ((repeat apply Exists.intro); exact ⟨⟨k + 1, (k : Int) + 1, by go_num, by omega, by omega, rfl, by rw [List.range_succ, List.map_append]; exact How5.out, H5, HB5⟩, by simp [intOf]; omega⟩)
  ·obtain rfl : k = 3 := by omega
   obtain rfl : z = 3 := by omega
   have hbb : 7 < x.tot 3 ∨ n = 0 ∨ 12 < n := by
    rcases Hb.out with ⟨k, h1, h2⟩ | h
    ·have := H4.out k h1
     omega
    ·exact h
   have hB0 : Below w1.heap.size w1 wr := HB.out
   have hB0w : Below w.heap.size w wr := hB1.trans (HB.out.mono hB1.size)
   have hsr := HB.out.size
   clear hown hz hk hlt H4 HB Hb
   have hzC : w.heap.size + 1 < w1.heap.size := by omega
   have hzD : w.heap.size + 1 < wr.heap.size := by omega
   have c0 := (hB0.cell (p := ⟨w.heap.size + 1, 0, none⟩) hzC).trans (HC.out.at (j := 0) rfl)
   have c1 := (hB0.cell (p := ⟨w.heap.size + 1, 1, none⟩) hzC).trans (HC.out.at (j := 1) rfl)
   have c2 := (hB0.cell (p := ⟨w.heap.size + 1, 2, none⟩) hzC).trans (HC.out.at (j := 2) rfl)
   have c3 := (hB0.cell (p := ⟨w.heap.size + 1, 3, none⟩) hzC).trans (HC.out.at (j := 3) rfl)
   have c4 := (hB0.cell (p := ⟨w.heap.size + 1, 4, none⟩) hzC).trans (HC.out.at (j := 4) rfl)
   have c5 := (hB0.cell (p := ⟨w.heap.size + 1, 5, none⟩) hzC).trans (HC.out.at (j := 5) rfl)
   have c6 := (hB0.cell (p := ⟨w.heap.size + 1, 6, none⟩) hzC).trans (HC.out.at (j := 6) rfl)
   have c7 := (hB0.cell (p := ⟨w.heap.size + 1, 7, none⟩) hzC).trans (HC.out.at (j := 7) rfl)
   have c8 := (hB0.cell (p := ⟨w.heap.size + 1, 8, none⟩) hzC).trans (HC.out.at (j := 8) rfl)
   have fz2 : ∀ o, wr.frozen? ⟨w.heap.size + 1, o, none⟩ = false := fun o => (hB0.frozen (p := ⟨w.heap.size + 1, o, none⟩) hzC).trans (HC.out.2.1 o)
   by_cases g7 : 7 < x.tot 3
   ·have g1 : ((x.tot 3 : Nat) : Int) > 7 := by omega
    have g2 : (7 : Int) < ((x.tot 3 : Nat) : Int) := by omega
    clear hbb g7
    go_wp2_with fail
    refine bodyPost_ret (v := .tuple #[.agg #[.slice none 0 0, .slice none 0 0, .slice none 0 0, .slice none 0 0, .map none, .slice none 0 0, .int .i64 0, .slice none 0 0, .slice none 0 0], .bool false]) (by simp [results, Tryz.results7, go_sem]; (try go_simp)) rfl ⟨rfl, ?_⟩
    exact ab0
   have g1 : ¬ ((x.tot 3 : Nat) : Int) > 7 := by omega
   have g2 : ¬ (7 : Int) < ((x.tot 3 : Nat) : Int) := by omega
   by_cases g0 : n = 0
   ·subst g0
    clear hbb g7
    go_wp2_with fail
    refine bodyPost_ret (v := .tuple #[.agg #[.slice none 0 0, .slice none 0 0, .slice none 0 0, .slice none 0 0, .map none, .slice none 0 0, .int .i64 0, .slice none 0 0, .slice none 0 0], .bool false]) (by simp [results, Tryz.results7, go_sem]; (try go_simp)) rfl ⟨rfl, ?_⟩
    exact ab0
   have g3 : ((n : Int) == 0) = false := by simpa using g0
   have g3' : (n : Int) ≠ 0 := by omega
   have g4 : (n : Int) > 12 := by omega
   have g4' : (12 : Int) < (n : Int) := by omega
   clear hbb g7 g0
   go_wp2_with fail
   refine bodyPost_ret (v := .tuple #[.agg #[.slice none 0 0, .slice none 0 0, .slice none 0 0, .slice none 0 0, .map none, .slice none 0 0, .int .i64 0, .slice none 0 0, .slice none 0 0], .bool false]) (by simp [results, Tryz.results7, go_sem]; (try go_simp)) rfl ⟨rfl, ?_⟩
   exact ab0
end Go.Proofs.YtnnmenmifphadaaGreatDoor
