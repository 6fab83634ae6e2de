/- Package redo: may, statuses, own. -/
import Derived.Test.YtbomhhkknopdpaaGreatDoorR0
import Derived.Test.YtbomhhkknopdpaaGreatDoorAp
import Derived.Test.YtbomhhkknopdpaaGreatDoorAp3
namespace Go.Proofs.YtbomhhkknopdpaaGreatDoor
set_option linter.unusedSimpArgs false
set_option linter.unusedVariables false
open Go.RowKit
/-- A function's answer is a list of locations. -/
def LocsPost (l : List Int) (w : World) (e : Ending) (w' : World) : Prop := ∃ (A : Option Addr) (cap : Nat), e = .returned (.slice A l.length cap) ∧ Rd w' w'.heap.size 1 A l.length (l.map (Value.int .i64)) ∧ (∀ b off, A = some ⟨b, off, none⟩ → w.heap.size ≤ b) ∧ Below w.heap.size w w'
theorem rd_one {w : World} {b : Nat} {v : Value} (h : w.cell? ⟨b, 0, none⟩ = some v) : Rd w w.heap.size 1 (some ⟨b, 0, none⟩) 1 [v] := ⟨rfl, fun _ => ⟨b, 0, rfl, cell_lt h, fun j u hu => by
  match j, hu with
  | 0, hu => injection hu with hu; subst hu; exact h
  | j + 1, hu => simp at hu⟩⟩
theorem rd_two {w : World} {b : Nat} {v u : Value} (h : w.cell? ⟨b, 0, none⟩ = some v) (h2 : w.cell? ⟨b, 1, none⟩ = some u) : Rd w w.heap.size 1 (some ⟨b, 0, none⟩) 2 [v, u] := ⟨rfl, fun _ => ⟨b, 0, rfl, cell_lt h, fun j u hu => by
  match j, hu with
  | 0, hu => injection hu with hu; subst hu; exact h
  | 1, hu => injection hu with hu; subst hu; exact h2
  | j + 2, hu => simp at hu⟩⟩
theorem info_loc : (Tryz.prog.info? 58).map (fun i => (i.zero, i.size, i.bytes)) = some (some (.int .i64 0), 1, 8) := by kernel_rfl
theorem own_rd' {w : World} {base size n : Nat} {e : TypeId} {v : Value} {xs : List Value} (h : w.ownsRow base e size v n xs) : ∃ A cap, v = .slice A n cap ∧ Rd w w.heap.size size A n xs := Rd.of_own h
def mayTo (T C B : Int) (k : Nat) : List Int := ((List.range k).map (fun j : Nat => (j : Int))).filter (mayL T C B)
/-- The locations that swaps may access, in ascending order. -/
def mayLs (T C B : Int) : List Int := mayTo T C B (fromL T C B 7).toNat
theorem mayTo_len (T C B : Int) (k : Nat) : (mayTo T C B k).length ≤ k := by
  unfold mayTo
  refine Nat.le_trans (List.length_filter_le _ _) ?_
  simp
set_option maxHeartbeats 2000000 in
set_option maxRecDepth 100000 in
theorem may_list (T C B : Int) (w : World) (hv : Valid T C B) (hs : Sizes w) : Calls Tryz.prog 23 #[(.agg #[.int .i64 T, .int .i64 C, .int .i64 B])] w (LocsPost (mayLs T C B) w) := by
  have hp := hs.pos
  obtain ⟨N, hN⟩ : ∃ N : Nat, fromL T C B 7 = (N : Int) := ⟨(fromL T C B 7).toNat, by have := (from_le T C B hv.1 7).1; omega⟩
  have hN2 : N ≤ 4096 := by have := hv.2; omega
  have hR : mayLs T C B = mayTo T C B N := by unfold mayLs; rw [hN]; rfl
  rw [hR]
  have HN := hide hN
  clear hN hR
  obtain ⟨i0, hi, iz0, iz1, iz2⟩ := info_parts info_loc
  go_enter Tryz.func23, Tryz.ntmps23
  go_wp2_with (first
    | (go_at_call 21; refine (size_ok T C B _ hv (hs.below (by repeat' (first | with_reducible exact Below.refl _ _ | with_reducible assumption | with_reducible refine Below.alloc ?_ ?_ _ | with_reducible refine Below.setCell ?_ ?_ _ | with_reducible refine Below.drew ?_ | with_reducible refine below_drewN ?_ _ | with_reducible refine Below.trans ?_ (Below.mono (by with_reducible assumption) ?_) | omega | (simp <;> omega))))).mono ?_; rintro e w1 ⟨rfl, hb1⟩; rw [HN.out]; obtain ⟨hcc1, hff1⟩ := bcell hb1; have hs1 := hb1.size; (try simp at hs1); have hz1 : w.heap.size < w1.heap.size := (by omega)))
  have e0 : w1.cell? ⟨w.heap.size, 0, none⟩ = some (.int .i64 T) := by go_simp
  have e1 : w1.cell? ⟨w.heap.size, 1, none⟩ = some (.int .i64 C) := by go_simp
  have e2 : w1.cell? ⟨w.heap.size, 2, none⟩ = some (.int .i64 B) := by go_simp
  have hB1 : Below w.heap.size w w1 := (by repeat' (first | with_reducible exact Below.refl _ _ | with_reducible assumption | with_reducible refine Below.alloc ?_ ?_ _ | with_reducible refine Below.setCell ?_ ?_ _ | with_reducible refine Below.drew ?_ | with_reducible refine below_drewN ?_ _ | with_reducible refine Below.trans ?_ (Below.mono (by with_reducible assumption) ?_) | omega | (simp <;> omega)))
  have HS := hide (hs.below hB1)
  clear hcc1 hff1 hb1
  go_loopw [7, 3] (fun i v wr => ∃ k : Nat, i = .int .i64 k ∧ k ≤ N ∧ wr.ownsRow w1.heap.size 58 1 v (mayTo T C B k).length ((mayTo T C B k).map (Value.int .i64)) ∧ Below w1.heap.size w1 wr) (fun i _ _ => N - (intOf i).toNat)
  case atStart => exact ⟨0, rfl, by omega, World.ownsRow_nil _ _ _ _, (by repeat' (first | with_reducible exact Below.refl _ _ | with_reducible assumption | with_reducible refine Below.alloc ?_ ?_ _ | with_reducible refine Below.setCell ?_ ?_ _ | with_reducible refine Below.drew ?_ | with_reducible refine below_drewN ?_ _ | with_reducible refine Below.trans ?_ (Below.mono (by with_reducible assumption) ?_) | omega | (simp <;> omega)))⟩
  case round =>
    obtain ⟨k, rfl, hk, hown, hB⟩ := hrel
    obtain ⟨A0, cap0, rfl, hcp0, hbl0⟩ := own_slice hown
    have hsz := hB.size
    have f0 := (hB.cell (p := ⟨w.heap.size, 0, none⟩) hz1).trans e0
    have f1 := (hB.cell (p := ⟨w.heap.size, 1, none⟩) hz1).trans e1
    have f2 := (hB.cell (p := ⟨w.heap.size, 2, none⟩) hz1).trans e2
    have HSr := hide (HS.out.below hB)
    have hl := mayTo_len T C B k
    have hstep : mayTo T C B (k + 1) = mayTo T C B k ++ if mayL T C B k = true then [(k : Int)] else [] := by
      unfold mayTo
      rw [List.range_succ, List.map_append, List.filter_append]
      congr 1
      simp only [List.map_cons, List.map_nil, List.filter_cons, List.filter_nil]
    by_cases hlt : k < N
    · cases hq : mayL T C B k with
      | true =>
        rw [hq, if_pos rfl] at hstep
        have Hst := hide hstep
        clear hstep
        go_wp2_with (first
          | (go_at_call 51; refine (may_ok T C B k _ hv (HSr.out.below (by repeat' (first | with_reducible exact Below.refl _ _ | with_reducible assumption | with_reducible refine Below.alloc ?_ ?_ _ | with_reducible refine Below.setCell ?_ ?_ _ | with_reducible refine Below.drew ?_ | with_reducible refine below_drewN ?_ _ | with_reducible refine Below.trans ?_ (Below.mono (by with_reducible assumption) ?_) | omega | (simp <;> omega)))) (by omega) (by omega)).mono ?_; rintro e' w5 ⟨rfl, hb5⟩; rw [hq]; obtain ⟨hcc5, hff5⟩ := bcell hb5; have hs5 := hb5.size; (try simp at hs5))
          | (at_builtin; refine wpList_append_rd rfl _ _ 78 rfl w1.heap.size 58 i0 _ 1 8 Tryz.underlying78 hi iz0 iz1 iz2 rfl (by decide) (.slice A0 (mayTo T C B k).length cap0) (mayTo T C B k).length ((mayTo T C B k).map (Value.int .i64)) rfl (own_below hown (by repeat' (first | with_reducible exact Below.refl _ _ | with_reducible assumption | with_reducible refine Below.alloc ?_ ?_ _ | with_reducible refine Below.setCell ?_ ?_ _ | with_reducible refine Below.drew ?_ | with_reducible refine below_drewN ?_ _ | with_reducible refine Below.trans ?_ (Below.mono (by with_reducible assumption) ?_) | omega | (simp <;> omega)))) (some ⟨w5.heap.size, 0, none⟩) 1 1 [.int .i64 k] rfl _ (rd_one (by go_simp)) (by simp [Value.oneCell']) (by unfold maxLen; omega) (by omega) (by simp; omega) w1.heap.size w1 (by repeat' (first | with_reducible exact Below.refl _ _ | with_reducible assumption | with_reducible refine Below.alloc ?_ ?_ _ | with_reducible refine Below.setCell ?_ ?_ _ | with_reducible refine Below.drew ?_ | with_reducible refine below_drewN ?_ _ | with_reducible refine Below.trans ?_ (Below.mono (by with_reducible assumption) ?_) | omega | (simp <;> omega))) (Nat.le_refl _) ?_; intro v' w6 hown6 hb6 hsz6))
        exact ⟨⟨k + 1, by go_num, by omega, by rw [Hst.out, List.length_append, List.map_append]; exact hown6, (by repeat' (first | with_reducible exact Below.refl _ _ | with_reducible assumption | with_reducible refine Below.alloc ?_ ?_ _ | with_reducible refine Below.setCell ?_ ?_ _ | with_reducible refine Below.drew ?_ | with_reducible refine below_drewN ?_ _ | with_reducible refine Below.trans ?_ (Below.mono (by with_reducible assumption) ?_) | omega | (simp <;> omega)))⟩, by simp [intOf]; omega⟩
      | false =>
        rw [hq, if_neg (by simp), List.append_nil] at hstep
        have Hst := hide hstep
        clear hstep
        go_wp2_with (first
          | (go_at_call 51; refine (may_ok T C B k _ hv (HSr.out.below (by repeat' (first | with_reducible exact Below.refl _ _ | with_reducible assumption | with_reducible refine Below.alloc ?_ ?_ _ | with_reducible refine Below.setCell ?_ ?_ _ | with_reducible refine Below.drew ?_ | with_reducible refine below_drewN ?_ _ | with_reducible refine Below.trans ?_ (Below.mono (by with_reducible assumption) ?_) | omega | (simp <;> omega)))) (by omega) (by omega)).mono ?_; rintro e' w5 ⟨rfl, hb5⟩; rw [hq]; obtain ⟨hcc5, hff5⟩ := bcell hb5; have hs5 := hb5.size; (try simp at hs5)))
        exact ⟨⟨k + 1, by go_num, by omega, by rw [Hst.out]; exact own_below hown hb5, (by repeat' (first | with_reducible exact Below.refl _ _ | with_reducible assumption | with_reducible refine Below.alloc ?_ ?_ _ | with_reducible refine Below.setCell ?_ ?_ _ | with_reducible refine Below.drew ?_ | with_reducible refine below_drewN ?_ _ | with_reducible refine Below.trans ?_ (Below.mono (by with_reducible assumption) ?_) | omega | (simp <;> omega)))⟩, by simp [intOf]; omega⟩
    · obtain rfl : N = k := by omega
      clear hstep
      obtain ⟨A, cap, e1, hr⟩ := own_rd' hown
      injection e1 with e1 e2 e3
      subst e1 e3
      go_wp2_with fail
      go_ret
      exact ⟨A0, cap0, rfl, hr, fun b off e => by have := hbl0 b off e; omega, (by repeat' (first | with_reducible exact Below.refl _ _ | with_reducible assumption | with_reducible refine Below.alloc ?_ ?_ _ | with_reducible refine Below.setCell ?_ ?_ _ | with_reducible refine Below.drew ?_ | with_reducible refine below_drewN ?_ _ | with_reducible refine Below.trans ?_ (Below.mono (by with_reducible assumption) ?_) | omega | (simp <;> omega)))⟩
def slotsTo (T C B : Int) (k : Nat) : List Int := (List.range k).map (fun i => atL T C B 4 (i : Nat) 0)
def blocksTo (T C B : Int) (k : Nat) : List Int := (List.range k).map (fun i => atL T C B 6 (i : Nat) 0)
/-- The locations of all status words. -/
def statusesL (T C B : Int) : List Int := slotsTo T C B T.toNat ++ blocksTo T C B B.toNat
theorem slotsTo_succ (T C B : Int) (k : Nat) : slotsTo T C B (k + 1) = slotsTo T C B k ++ [atL T C B 4 (k : Nat) 0] := by unfold slotsTo; rw [List.range_succ, List.map_append]; rfl
theorem blocksTo_succ (T C B : Int) (k : Nat) : blocksTo T C B (k + 1) = blocksTo T C B k ++ [atL T C B 6 (k : Nat) 0] := by unfold blocksTo; rw [List.range_succ, List.map_append]; rfl
theorem slotsTo_len (T C B : Int) (k : Nat) : (slotsTo T C B k).length = k := by unfold slotsTo; simp
theorem blocksTo_len (T C B : Int) (k : Nat) : (blocksTo T C B k).length = k := by unfold blocksTo; simp
set_option maxHeartbeats 2000000 in
set_option maxRecDepth 100000 in
theorem statuses_list (T C B : Int) (w : World) (hv : Valid T C B) (hs : Sizes w) : Calls Tryz.prog 25 #[(.agg #[.int .i64 T, .int .i64 C, .int .i64 B])] w (LocsPost (statusesL T C B) w) := by
  have hp := hs.pos
  obtain ⟨f1, f2, -, -, f5, f6⟩ := hv.1
  obtain ⟨M, rfl⟩ : ∃ M : Nat, T = (M : Int) := ⟨T.toNat, by omega⟩
  obtain ⟨K, rfl⟩ : ∃ K : Nat, B = (K : Int) := ⟨B.toNat, by omega⟩
  have hR : statusesL M C K = slotsTo M C K M ++ blocksTo M C K K := by unfold statusesL; simp
  rw [hR]
  clear hR
  obtain ⟨i0, hi, iz0, iz1, iz2⟩ := info_parts info_loc
  obtain ⟨w1, hw1⟩ : ∃ w1 : World, w1 = w.alloc (.cells #[.int .i64 M, .int .i64 C, .int .i64 K] 31) := ⟨_, rfl⟩
  have e0 : w1.cell? ⟨w.heap.size, 0, none⟩ = some (.int .i64 M) := by rw [hw1]; go_simp
  have e1 : w1.cell? ⟨w.heap.size, 1, none⟩ = some (.int .i64 C) := by rw [hw1]; go_simp
  have e2 : w1.cell? ⟨w.heap.size, 2, none⟩ = some (.int .i64 K) := by rw [hw1]; go_simp
  have hB1 : Below w.heap.size w w1 := by rw [hw1]; exact (by repeat' (first | with_reducible exact Below.refl _ _ | with_reducible assumption | with_reducible refine Below.alloc ?_ ?_ _ | with_reducible refine Below.setCell ?_ ?_ _ | with_reducible refine Below.drew ?_ | with_reducible refine below_drewN ?_ _ | with_reducible refine Below.trans ?_ (Below.mono (by with_reducible assumption) ?_) | omega | (simp <;> omega)))
  have HS := hide (hs.below hB1)
  have hz1 : w.heap.size < w1.heap.size := by rw [hw1]; simp
  have Hw1 := hide hw1
  clear hw1
  go_enter Tryz.func25, Tryz.ntmps25
  go_wp2_with fail
  rw [← Hw1.out]
  go_loopw [4, 3] (fun i v wr => ∃ k : Nat, i = .int .i64 ((k : Int) + 1) ∧ k ≤ M ∧ wr.ownsRow w1.heap.size 58 1 v k ((slotsTo M C K k).map (Value.int .i64)) ∧ Below w1.heap.size w1 wr) (fun i _ _ => M + 1 - (intOf i).toNat)
  case atStart => exact ⟨0, by go_num, by omega, World.ownsRow_nil _ _ _ _, (by repeat' (first | with_reducible exact Below.refl _ _ | with_reducible assumption | with_reducible refine Below.alloc ?_ ?_ _ | with_reducible refine Below.setCell ?_ ?_ _ | with_reducible refine Below.drew ?_ | with_reducible refine below_drewN ?_ _ | with_reducible refine Below.trans ?_ (Below.mono (by with_reducible assumption) ?_) | omega | (simp <;> omega)))⟩
  case round =>
    obtain ⟨k, rfl, hk, hown, hB⟩ := hrel
    obtain ⟨A0, cap0, rfl, hcp0, hbl0⟩ := own_slice hown
    have hsz := hB.size
    have f0 := (hB.cell (p := ⟨w.heap.size, 0, none⟩) hz1).trans e0
    have f1 := (hB.cell (p := ⟨w.heap.size, 1, none⟩) hz1).trans e1
    have f2 := (hB.cell (p := ⟨w.heap.size, 2, none⟩) hz1).trans e2
    have HSr := hide (HS.out.below hB)
    by_cases hlt : k < M
    · have hle : (k : Int) + 1 ≤ (M : Int) := by omega
      have Hst := hide (slotsTo_succ M C K k)
      have hsl := fun W hs' => slot_ok M C K ((k : Int) + 1) W hv hs' (by omega) (by omega)
      rw [show (k : Int) + 1 - 1 = (k : Nat) by omega] at hsl
      have Hsl := hide hsl
      clear hsl
      go_wp2_with (first
        | (go_at_call 36; refine (Hsl.out _ (HSr.out.below (by repeat' (first | with_reducible exact Below.refl _ _ | with_reducible assumption | with_reducible refine Below.alloc ?_ ?_ _ | with_reducible refine Below.setCell ?_ ?_ _ | with_reducible refine Below.drew ?_ | with_reducible refine below_drewN ?_ _ | with_reducible refine Below.trans ?_ (Below.mono (by with_reducible assumption) ?_) | omega | (simp <;> omega))))).mono ?_; rintro e' w5 ⟨rfl, hb5⟩; obtain ⟨hcc5, hff5⟩ := bcell hb5; have hs5 := hb5.size; (try simp at hs5))
        | (at_builtin; refine wpList_append_rd rfl _ _ 78 rfl w1.heap.size 58 i0 _ 1 8 Tryz.underlying78 hi iz0 iz1 iz2 rfl (by decide) (.slice A0 k cap0) k ((slotsTo M C K k).map (Value.int .i64)) rfl (own_below hown (by repeat' (first | with_reducible exact Below.refl _ _ | with_reducible assumption | with_reducible refine Below.alloc ?_ ?_ _ | with_reducible refine Below.setCell ?_ ?_ _ | with_reducible refine Below.drew ?_ | with_reducible refine below_drewN ?_ _ | with_reducible refine Below.trans ?_ (Below.mono (by with_reducible assumption) ?_) | omega | (simp <;> omega)))) (some ⟨w5.heap.size, 0, none⟩) 1 1 [.int .i64 (atL M C K 4 k 0)] rfl _ (rd_one (by go_simp)) (by simp [Value.oneCell']) (by unfold maxLen; omega) (by omega) (by simp; omega) w1.heap.size w1 (by repeat' (first | with_reducible exact Below.refl _ _ | with_reducible assumption | with_reducible refine Below.alloc ?_ ?_ _ | with_reducible refine Below.setCell ?_ ?_ _ | with_reducible refine Below.drew ?_ | with_reducible refine below_drewN ?_ _ | with_reducible refine Below.trans ?_ (Below.mono (by with_reducible assumption) ?_) | omega | (simp <;> omega))) (Nat.le_refl _) ?_; intro v' w6 hown6 hb6 hsz6))
      exact ⟨⟨k + 1, by go_num, by omega, by rw [Hst.out, List.map_append]; exact hown6, (by repeat' (first | with_reducible exact Below.refl _ _ | with_reducible assumption | with_reducible refine Below.alloc ?_ ?_ _ | with_reducible refine Below.setCell ?_ ?_ _ | with_reducible refine Below.drew ?_ | with_reducible refine below_drewN ?_ _ | with_reducible refine Below.trans ?_ (Below.mono (by with_reducible assumption) ?_) | omega | (simp <;> omega)))⟩, by simp [intOf]; omega⟩
    · obtain rfl : M = k := by omega
      go_wp2_with fail
      obtain ⟨wm, hwm⟩ : ∃ wm : World, wm = wr := ⟨_, rfl⟩
      rw [← hwm] at hown hB hsz f0 f1 f2 HSr ⊢
      clear hwm
      have hown0 := hide hown
      clear hown
      go_loopw [20, 3] (fun i v wr => ∃ k : Nat, i = .int .i64 k ∧ k ≤ K ∧ wr.ownsRow w1.heap.size 58 1 v (M + k) ((slotsTo M C K M ++ blocksTo M C K k).map (Value.int .i64)) ∧ Below w1.heap.size w1 wr) (fun i _ _ => K - (intOf i).toNat)
      case atStart => exact ⟨0, by go_num, by omega, by have h := hown0.out; unfold blocksTo; simpa using h, (by repeat' (first | with_reducible exact Below.refl _ _ | with_reducible assumption | with_reducible refine Below.alloc ?_ ?_ _ | with_reducible refine Below.setCell ?_ ?_ _ | with_reducible refine Below.drew ?_ | with_reducible refine below_drewN ?_ _ | with_reducible refine Below.trans ?_ (Below.mono (by with_reducible assumption) ?_) | omega | (simp <;> omega)))⟩
      case round =>
        clear hown0 hB hsz f0 f1 f2 HSr hcp0 hbl0
        obtain ⟨k, rfl, hk, hown, hB⟩ := hrel
        obtain ⟨A0, cap0, rfl, hcp0, hbl0⟩ := own_slice hown
        have hsz := hB.size
        have f0 := (hB.cell (p := ⟨w.heap.size, 0, none⟩) hz1).trans e0
        have f1 := (hB.cell (p := ⟨w.heap.size, 1, none⟩) hz1).trans e1
        have f2 := (hB.cell (p := ⟨w.heap.size, 2, none⟩) hz1).trans e2
        have HSr := hide (HS.out.below hB)
        by_cases hlt : k < K
        · have Hst := hide (blocksTo_succ M C K k)
          go_wp2_with (first
            | (go_at_call 37; refine (block_ok M C K k _ hv (HSr.out.below (by repeat' (first | with_reducible exact Below.refl _ _ | with_reducible assumption | with_reducible refine Below.alloc ?_ ?_ _ | with_reducible refine Below.setCell ?_ ?_ _ | with_reducible refine Below.drew ?_ | with_reducible refine below_drewN ?_ _ | with_reducible refine Below.trans ?_ (Below.mono (by with_reducible assumption) ?_) | omega | (simp <;> omega))))).mono ?_; rintro e' w5 ⟨rfl, hb5⟩; obtain ⟨hcc5, hff5⟩ := bcell hb5; have hs5 := hb5.size; (try simp at hs5))
            | (at_builtin; refine wpList_append_rd rfl _ _ 78 rfl w1.heap.size 58 i0 _ 1 8 Tryz.underlying78 hi iz0 iz1 iz2 rfl (by decide) (.slice A0 (M + k) cap0) (M + k) ((slotsTo M C K M ++ blocksTo M C K k).map (Value.int .i64)) rfl (own_below hown (by repeat' (first | with_reducible exact Below.refl _ _ | with_reducible assumption | with_reducible refine Below.alloc ?_ ?_ _ | with_reducible refine Below.setCell ?_ ?_ _ | with_reducible refine Below.drew ?_ | with_reducible refine below_drewN ?_ _ | with_reducible refine Below.trans ?_ (Below.mono (by with_reducible assumption) ?_) | omega | (simp <;> omega)))) (some ⟨w5.heap.size, 0, none⟩) 1 1 [.int .i64 (atL M C K 6 k 0)] rfl _ (rd_one (by go_simp)) (by simp [Value.oneCell']) (by unfold maxLen; omega) (by omega) (by simp; omega) w1.heap.size w1 (by repeat' (first | with_reducible exact Below.refl _ _ | with_reducible assumption | with_reducible refine Below.alloc ?_ ?_ _ | with_reducible refine Below.setCell ?_ ?_ _ | with_reducible refine Below.drew ?_ | with_reducible refine below_drewN ?_ _ | with_reducible refine Below.trans ?_ (Below.mono (by with_reducible assumption) ?_) | omega | (simp <;> omega))) (Nat.le_refl _) ?_; intro v' w6 hown6 hb6 hsz6))
          exact ⟨⟨k + 1, by go_num, by omega, by rw [Hst.out, ← List.append_assoc, List.map_append]; exact hown6, (by repeat' (first | with_reducible exact Below.refl _ _ | with_reducible assumption | with_reducible refine Below.alloc ?_ ?_ _ | with_reducible refine Below.setCell ?_ ?_ _ | with_reducible refine Below.drew ?_ | with_reducible refine below_drewN ?_ _ | with_reducible refine Below.trans ?_ (Below.mono (by with_reducible assumption) ?_) | omega | (simp <;> omega)))⟩, by simp [intOf]; omega⟩
        · obtain rfl : K = k := by omega
          obtain ⟨A, cap, e1, hr⟩ := own_rd' hown
          injection e1 with e1 e2 e3
          subst e1 e3
          go_wp2_with fail
          go_ret
          have hlen : (slotsTo M C K M ++ blocksTo M C K K).length = M + K := by rw [List.length_append, slotsTo_len, blocksTo_len]
          exact ⟨A0, cap0, by rw [hlen]; rfl, by rw [hlen]; exact hr, fun b off e => by have := hbl0 b off e; omega, (by repeat' (first | with_reducible exact Below.refl _ _ | with_reducible assumption | with_reducible refine Below.alloc ?_ ?_ _ | with_reducible refine Below.setCell ?_ ?_ _ | with_reducible refine Below.drew ?_ | with_reducible refine below_drewN ?_ _ | with_reducible refine Below.trans ?_ (Below.mono (by with_reducible assumption) ?_) | omega | (simp <;> omega)))⟩
def ownTo (T C B : Int) (k : Nat) : List Int := (List.range k).flatMap (fun i => [atL T C B 1 (i : Nat) 0, atL T C B 1 (i : Nat) 1])
/-- The locations of all announced eras and hazard pointers. -/
def ownLs (T C B : Int) : List Int := ownTo T C B T.toNat
theorem ownTo_succ (T C B : Int) (k : Nat) : ownTo T C B (k + 1) = ownTo T C B k ++ [atL T C B 1 (k : Nat) 0, atL T C B 1 (k : Nat) 1] := by unfold ownTo; rw [List.range_succ, List.flatMap_append]; simp
theorem ownTo_len (T C B : Int) (k : Nat) : (ownTo T C B k).length = 2 * k := by
  induction k with
  | zero => rfl
  | succ k ih => rw [ownTo_succ, List.length_append, ih]; simp; omega
set_option maxHeartbeats 4000000 in
set_option maxRecDepth 100000 in
theorem own_list (T C B : Int) (w : World) (hv : Valid T C B) (hs : Sizes w) : Calls Tryz.prog 28 #[(.agg #[.int .i64 T, .int .i64 C, .int .i64 B])] w (LocsPost (ownLs T C B) w) := by
  have hp := hs.pos
  obtain ⟨f1, f2, -, -, f5, f6⟩ := hv.1
  obtain ⟨M, rfl⟩ : ∃ M : Nat, T = (M : Int) := ⟨T.toNat, by omega⟩
  have hR : ownLs M C B = ownTo M C B M := by unfold ownLs; simp
  rw [hR]
  clear hR
  obtain ⟨i0, hi, iz0, iz1, iz2⟩ := info_parts info_loc
  obtain ⟨w1, hw1⟩ : ∃ w1 : World, w1 = w.alloc (.cells #[.int .i64 M, .int .i64 C, .int .i64 B] 31) := ⟨_, rfl⟩
  have e0 : w1.cell? ⟨w.heap.size, 0, none⟩ = some (.int .i64 M) := by rw [hw1]; go_simp
  have e1 : w1.cell? ⟨w.heap.size, 1, none⟩ = some (.int .i64 C) := by rw [hw1]; go_simp
  have e2 : w1.cell? ⟨w.heap.size, 2, none⟩ = some (.int .i64 B) := by rw [hw1]; go_simp
  have hB1 : Below w.heap.size w w1 := by rw [hw1]; exact (by repeat' (first | with_reducible exact Below.refl _ _ | with_reducible assumption | with_reducible refine Below.alloc ?_ ?_ _ | with_reducible refine Below.setCell ?_ ?_ _ | with_reducible refine Below.drew ?_ | with_reducible refine below_drewN ?_ _ | with_reducible refine Below.trans ?_ (Below.mono (by with_reducible assumption) ?_) | omega | (simp <;> omega)))
  have HS := hide (hs.below hB1)
  have hz1 : w.heap.size < w1.heap.size := by rw [hw1]; simp
  have Hw1 := hide hw1
  clear hw1
  go_enter Tryz.func28, Tryz.ntmps28
  go_wp2_with fail
  rw [← Hw1.out]
  go_loopw [4, 3] (fun i v wr => ∃ k : Nat, i = .int .i64 ((k : Int) + 1) ∧ k ≤ M ∧ wr.ownsRow w1.heap.size 58 1 v (2 * k) ((ownTo M C B k).map (Value.int .i64)) ∧ Below w1.heap.size w1 wr) (fun i _ _ => M + 1 - (intOf i).toNat)
  case atStart => exact ⟨0, by go_num, by omega, World.ownsRow_nil _ _ _ _, (by repeat' (first | with_reducible exact Below.refl _ _ | with_reducible assumption | with_reducible refine Below.alloc ?_ ?_ _ | with_reducible refine Below.setCell ?_ ?_ _ | with_reducible refine Below.drew ?_ | with_reducible refine below_drewN ?_ _ | with_reducible refine Below.trans ?_ (Below.mono (by with_reducible assumption) ?_) | omega | (simp <;> omega)))⟩
  case round =>
    obtain ⟨k, rfl, hk, hown, hB⟩ := hrel
    obtain ⟨A0, cap0, rfl, hcp0, hbl0⟩ := own_slice hown
    have hsz := hB.size
    have f0 := (hB.cell (p := ⟨w.heap.size, 0, none⟩) hz1).trans e0
    have f1 := (hB.cell (p := ⟨w.heap.size, 1, none⟩) hz1).trans e1
    have f2 := (hB.cell (p := ⟨w.heap.size, 2, none⟩) hz1).trans e2
    have HSr := hide (HS.out.below hB)
    by_cases hlt : k < M
    · have hle : (k : Int) + 1 ≤ (M : Int) := by omega
      have Hst := hide (ownTo_succ M C B k)
      have hsl := fun W hs' => announce_ok M C B ((k : Int) + 1) W hv hs' (by omega) (by omega)
      have hsh := fun W hs' => hazard_ok M C B ((k : Int) + 1) W hv hs' (by omega) (by omega)
      rw [show (k : Int) + 1 - 1 = (k : Nat) by omega] at hsl hsh
      have Hsl := hide hsl
      have Hsh := hide hsh
      clear hsl hsh
      have hzr : w.heap.size < wr.heap.size := by omega
      go_wp2_with fail
      go_region_held3 (fun w' => w'.cell? ⟨w.heap.size, 0, none⟩ = some (.int .i64 M) ∧ w'.cell? ⟨w.heap.size, 1, none⟩ = some (.int .i64 C) ∧ w'.cell? ⟨w.heap.size, 2, none⟩ = some (.int .i64 B))
        (first | exact ⟨f0, f1, f2⟩ | exact ⟨(hb7.cell (p := ⟨w.heap.size, 0, none⟩) hz1).trans e0, (hb7.cell (p := ⟨w.heap.size, 1, none⟩) hz1).trans e1, (hb7.cell (p := ⟨w.heap.size, 2, none⟩) hz1).trans e2⟩ | go_keep)
        (first
          | (go_at_call 54; refine (Hsl.out _ (HSr.out.below (by repeat' (first | with_reducible exact Below.refl _ _ | with_reducible assumption | with_reducible refine Below.alloc ?_ ?_ _ | with_reducible refine Below.setCell ?_ ?_ _ | with_reducible refine Below.drew ?_ | with_reducible refine below_drewN ?_ _ | with_reducible refine Below.trans ?_ (Below.mono (by with_reducible assumption) ?_) | omega | (simp <;> omega))))).mono ?_; rintro e' w5 ⟨rfl, hb5'⟩; have hb5 : Below _ _ w5 := (by first | with_reducible exact noDrew hb5' | exact hb5'); clear hb5'; obtain ⟨hcc5, hff5⟩ := bcell hb5; have hs5 := hb5.size; (try simp at hs5); have hz5 : w.heap.size < w5.heap.size := (by omega))
          | (go_at_call 55; refine (Hsh.out _ (HSr.out.below (by repeat' (first | with_reducible exact Below.refl _ _ | with_reducible assumption | with_reducible refine Below.alloc ?_ ?_ _ | with_reducible refine Below.setCell ?_ ?_ _ | with_reducible refine Below.drew ?_ | with_reducible refine below_drewN ?_ _ | with_reducible refine Below.trans ?_ (Below.mono (by with_reducible assumption) ?_) | omega | (simp <;> omega))))).mono ?_; rintro e' w6 ⟨rfl, hb6'⟩; have hb6 : Below _ _ w6 := (by first | with_reducible exact noDrew hb6' | exact hb6'); clear hb6'; obtain ⟨hcc6, hff6⟩ := bcell hb6; have hs6 := hb6.size; (try simp at hs6); have hz6 : w.heap.size < w6.heap.size := (by omega))
          | (refine step_append_rd (by rfl) _ _ 78 (by rfl) w1.heap.size 58 i0 _ 1 8 Tryz.underlying78 hi iz0 iz1 iz2 rfl (by decide) (.slice A0 (2 * k) cap0) (2 * k) ((ownTo M C B k).map (Value.int .i64)) (by rfl) (own_below hown (by repeat' (first | with_reducible exact Below.refl _ _ | with_reducible assumption | with_reducible refine Below.alloc ?_ ?_ _ | with_reducible refine Below.setCell ?_ ?_ _ | with_reducible refine Below.drew ?_ | with_reducible refine below_drewN ?_ _ | with_reducible refine Below.trans ?_ (Below.mono (by with_reducible assumption) ?_) | omega | (simp <;> omega)))) _ 2 2 [.int .i64 (atL M C B 1 k 0), .int .i64 (atL M C B 1 k 1)] (by rfl) _ (rd_two (by go_simp) (by go_simp)) (by simp [Value.oneCell']) (by unfold maxLen; omega) (by omega) (by simp; omega) w1.heap.size w1 (by repeat' (first | with_reducible exact Below.refl _ _ | with_reducible assumption | with_reducible refine Below.alloc ?_ ?_ _ | with_reducible refine Below.setCell ?_ ?_ _ | with_reducible refine Below.drew ?_ | with_reducible refine below_drewN ?_ _ | with_reducible refine Below.trans ?_ (Below.mono (by with_reducible assumption) ?_) | omega | (simp <;> omega))) (Nat.le_refl _) ?_; intro v' w7 hown7 hb7 hsz7))
      all_goals go_wp2_with fail
      all_goals exact ⟨⟨k + 1, by go_num, by omega, by rw [Hst.out, List.map_append, show 2 * (k + 1) = 2 * k + 2 by omega]; exact hown7, (by repeat' (first | with_reducible exact Below.refl _ _ | with_reducible assumption | with_reducible refine Below.alloc ?_ ?_ _ | with_reducible refine Below.setCell ?_ ?_ _ | with_reducible refine Below.drew ?_ | with_reducible refine below_drewN ?_ _ | with_reducible refine Below.trans ?_ (Below.mono (by with_reducible assumption) ?_) | omega | (simp <;> omega)))⟩, by simp [intOf]; omega⟩
    · obtain rfl : M = k := by omega
      obtain ⟨A, cap, e1, hr⟩ := own_rd' hown
      injection e1 with e1 e2 e3
      subst e1 e3
      go_wp2_with fail
      go_ret
      have hlen : (ownTo M C B M).length = 2 * M := ownTo_len M C B M
      exact ⟨A0, cap0, by rw [hlen]; rfl, by rw [hlen]; exact hr, fun b off e => by have := hbl0 b off e; omega, (by repeat' (first | with_reducible exact Below.refl _ _ | with_reducible assumption | with_reducible refine Below.alloc ?_ ?_ _ | with_reducible refine Below.setCell ?_ ?_ _ | with_reducible refine Below.drew ?_ | with_reducible refine below_drewN ?_ _ | with_reducible refine Below.trans ?_ (Below.mono (by with_reducible assumption) ?_) | omega | (simp <;> omega)))⟩
end Go.Proofs.YtbomhhkknopdpaaGreatDoor
