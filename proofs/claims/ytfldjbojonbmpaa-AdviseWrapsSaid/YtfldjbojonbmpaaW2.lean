/- Package atom: the code's Next. -/
import Derived.Test.YtfldjbojonbmpaaW1
import Derived.RegionTactic
import Derived.BigRegion
namespace Go.Proofs.Ytfldjbojonbmpaa
open Go.RowKit

theorem next_done (n t a v r f : Int) (b s k : Bool) (w : World) :
    Calls Try.prog 45 #[(.agg #[.int .i64 0, .int .i64 0, .int .i64 n, .bool b, .bool s, .bool true, .int .i64 t, .int .i64 a]), (.agg #[.int .i64 v, .int .u32 r, .int .u32 f, .bool k])] w fun e w' => e = .returned (.tuple #[.iface 72 (.agg #[.int .i64 0, .int .i64 0, .int .i64 n, .bool b, .bool s, .bool true, .int .i64 t, .int .i64 a]), (.agg #[.int .i64 0, .int .i64 0, .int .i64 0, .int .u32 0, .int .u32 0, .int .i64 0, .int .u32 0, .int .u32 0]), .bool true]) ∧ Below w.heap.size w w' := by
  go_enter Try.func45, Try.ntmps45
  go_wp2
  exact bodyPost_ret (v := .tuple #[.iface 72 (.agg #[.int .i64 0, .int .i64 0, .int .i64 n, .bool b, .bool s, .bool true, .int .i64 t, .int .i64 a]), (.agg #[.int .i64 0, .int .i64 0, .int .i64 0, .int .u32 0, .int .u32 0, .int .i64 0, .int .u32 0, .int .u32 0]), .bool true]) (by simp [results, Try.results45, go_sem]) rfl ⟨rfl, (by repeat' (first | with_reducible exact Below.refl _ _ | with_reducible assumption | with_reducible refine Below.alloc ?_ ?_ _ | with_reducible refine Below.setCell ?_ ?_ _ | with_reducible refine Below.drew ?_ | with_reducible refine below_drewN ?_ _ | with_reducible refine Below.trans ?_ (Below.mono (by with_reducible assumption) ?_) | omega | (simp <;> omega)))⟩

theorem next_first (n t a v r f : Int) (s k : Bool) (w : World) :
    Calls Try.prog 45 #[(.agg #[.int .i64 0, .int .i64 0, .int .i64 n, .bool false, .bool s, .bool false, .int .i64 t, .int .i64 a]), (.agg #[.int .i64 v, .int .u32 r, .int .u32 f, .bool k])] w fun e w' => e = .returned (.tuple #[.iface 72 (.agg #[.int .i64 0, .int .i64 0, .int .i64 n, .bool true, .bool s, .bool false, .int .i64 t, .int .i64 a]), (.agg #[.int .i64 5, .int .i64 0, .int .i64 0, .int .u32 0, .int .u32 0, .int .i64 0, .int .u32 0, .int .u32 0]), .bool false]) ∧ Below w.heap.size w w' := by
  go_enter Try.func45, Try.ntmps45
  go_wp2
  go_region
  all_goals go_wp2
  all_goals exact bodyPost_ret (v := .tuple #[.iface 72 (.agg #[.int .i64 0, .int .i64 0, .int .i64 n, .bool true, .bool s, .bool false, .int .i64 t, .int .i64 a]), (.agg #[.int .i64 5, .int .i64 0, .int .i64 0, .int .u32 0, .int .u32 0, .int .i64 0, .int .u32 0, .int .u32 0]), .bool false]) (by simp [results, Try.results45, go_sem]) rfl ⟨rfl, (by repeat' (first | with_reducible exact Below.refl _ _ | with_reducible assumption | with_reducible refine Below.alloc ?_ ?_ _ | with_reducible refine Below.setCell ?_ ?_ _ | with_reducible refine Below.drew ?_ | with_reducible refine below_drewN ?_ _ | with_reducible refine Below.trans ?_ (Below.mono (by with_reducible assumption) ?_) | omega | (simp <;> omega)))⟩

theorem next_ok (n t a v r f : Int) (w : World) (h0 : 0 ≤ t) (h1 : t ≤ 1000000) :
    Calls Try.prog 45 #[(.agg #[.int .i64 0, .int .i64 0, .int .i64 n, .bool true, .bool true, .bool false, .int .i64 t, .int .i64 a]), (.agg #[.int .i64 v, .int .u32 r, .int .u32 f, .bool true])] w fun e w' => e = .returned (.tuple #[.iface 72 (.agg #[.int .i64 0, .int .i64 0, .int .i64 n, .bool true, .bool true, .bool true, .int .i64 (t + 1), .int .i64 v]), (.agg #[.int .i64 0, .int .i64 0, .int .i64 0, .int .u32 0, .int .u32 0, .int .i64 0, .int .u32 0, .int .u32 0]), .bool true]) ∧ Below w.heap.size w w' := by
  go_enter Try.func45, Try.ntmps45
  go_wp2
  go_region
  all_goals go_wp2
  all_goals exact bodyPost_ret (v := .tuple #[.iface 72 (.agg #[.int .i64 0, .int .i64 0, .int .i64 n, .bool true, .bool true, .bool true, .int .i64 (t + 1), .int .i64 v]), (.agg #[.int .i64 0, .int .i64 0, .int .i64 0, .int .u32 0, .int .u32 0, .int .i64 0, .int .u32 0, .int .u32 0]), .bool true]) (by simp [results, Try.results45, go_sem]) rfl ⟨rfl, (by repeat' (first | with_reducible exact Below.refl _ _ | with_reducible assumption | with_reducible refine Below.alloc ?_ ?_ _ | with_reducible refine Below.setCell ?_ ?_ _ | with_reducible refine Below.drew ?_ | with_reducible refine below_drewN ?_ _ | with_reducible refine Below.trans ?_ (Below.mono (by with_reducible assumption) ?_) | omega | (simp <;> omega)))⟩
set_option maxHeartbeats 1000000 in
theorem next_one_same (n t a v r f : Int) (k : Bool) (w : World) (_h0 : 0 ≤ t) (_h1 : t ≤ 1000000) (hm : wrap64 (v + n) = v) :
    Calls Try.prog 45 #[(.agg #[.int .i64 0, .int .i64 0, .int .i64 n, .bool true, .bool false, .bool false, .int .i64 t, .int .i64 a]), (.agg #[.int .i64 v, .int .u32 r, .int .u32 f, .bool k])] w fun e w' => e = .returned (.tuple #[.iface 72 (.agg #[.int .i64 0, .int .i64 0, .int .i64 n, .bool true, .bool false, .bool true, .int .i64 t, .int .i64 v]), (.agg #[.int .i64 0, .int .i64 0, .int .i64 0, .int .u32 0, .int .u32 0, .int .i64 0, .int .u32 0, .int .u32 0]), .bool true]) ∧ Below w.heap.size w w' := by
  have HM := hide hm
  clear hm
  go_enter Try.func45, Try.ntmps45
  go_wp2_with fail
  refine (do_any v n _).mono ?_
  rintro e w1 ⟨rfl, hb1⟩
  rw [HM.out]
  obtain ⟨hcc1, hff1⟩ := bcell hb1; have hs1 := hb1.size; (try simp at hs1); have hz1 : w.heap.size < w1.heap.size := (by omega)
  have hz2 : w.heap.size + 1 < w1.heap.size := by omega
  have hz3 : w.heap.size + 1 + 1 < w1.heap.size := by omega
  have k0 : w1.cell? ⟨w.heap.size, 0, none⟩ = some (.int .i64 0) := by go_simp
  have k1 : w1.cell? ⟨w.heap.size, 1, none⟩ = some (.int .i64 0) := by go_simp
  have k2 : w1.cell? ⟨w.heap.size, 2, none⟩ = some (.int .i64 n) := by go_simp
  have k3 : w1.cell? ⟨w.heap.size, 3, none⟩ = some (.bool true) := by go_simp
  have k4 : w1.cell? ⟨w.heap.size, 4, none⟩ = some (.bool false) := by go_simp
  have k5 : w1.cell? ⟨w.heap.size, 5, none⟩ = some (.bool false) := by go_simp
  have k6 : w1.cell? ⟨w.heap.size, 6, none⟩ = some (.int .i64 t) := by go_simp
  have k7 : w1.cell? ⟨w.heap.size, 7, none⟩ = some (.int .i64 a) := by go_simp
  have g0 : w1.cell? ⟨w.heap.size + 1, 0, none⟩ = some (.int .i64 v) := by go_simp
  have g1 : w1.cell? ⟨w.heap.size + 1, 1, none⟩ = some (.int .u32 r) := by go_simp
  have g2 : w1.cell? ⟨w.heap.size + 1, 2, none⟩ = some (.int .u32 f) := by go_simp
  have g3 : w1.cell? ⟨w.heap.size + 1, 3, none⟩ = some (.bool k) := by go_simp
  have a0 : w1.cell? ⟨w.heap.size + 1 + 1, 0, none⟩ = some (.int .i64 0) := by go_simp
  have a1 : w1.cell? ⟨w.heap.size + 1 + 1, 1, none⟩ = some (.int .i64 0) := by go_simp
  have a2 : w1.cell? ⟨w.heap.size + 1 + 1, 2, none⟩ = some (.int .i64 0) := by go_simp
  have a3 : w1.cell? ⟨w.heap.size + 1 + 1, 3, none⟩ = some (.int .u32 0) := by go_simp
  have a4 : w1.cell? ⟨w.heap.size + 1 + 1, 4, none⟩ = some (.int .u32 0) := by go_simp
  have a5 : w1.cell? ⟨w.heap.size + 1 + 1, 5, none⟩ = some (.int .i64 0) := by go_simp
  have a6 : w1.cell? ⟨w.heap.size + 1 + 1, 6, none⟩ = some (.int .u32 0) := by go_simp
  have a7 : w1.cell? ⟨w.heap.size + 1 + 1, 7, none⟩ = some (.int .u32 0) := by go_simp
  have hB1 : Below w.heap.size w w1 := (by repeat' (first | with_reducible exact Below.refl _ _ | with_reducible assumption | with_reducible refine Below.alloc ?_ ?_ _ | with_reducible refine Below.setCell ?_ ?_ _ | with_reducible refine Below.drew ?_ | with_reducible refine below_drewN ?_ _ | with_reducible refine Below.trans ?_ (Below.mono (by with_reducible assumption) ?_) | omega | (simp <;> omega)))
  have q3 : w1.frozen? ⟨w.heap.size, 3, none⟩ = false := by go_simp
  have q4 : w1.frozen? ⟨w.heap.size, 4, none⟩ = false := by go_simp
  have q5 : w1.frozen? ⟨w.heap.size, 7, none⟩ = false := by go_simp
  have q6 : w1.frozen? ⟨w.heap.size, 5, none⟩ = false := by go_simp
  have p0 : ∀ o, w1.frozen? ⟨w.heap.size + 1 + 1, o, none⟩ = false := fun o => by rw [hff1 _ _ (by simp)]; exact World.frozen?_alloc_at _ _ _ _ (by simp)
  clear hcc1 hff1 hb1
  go_wp2
  exact bodyPost_ret (v := .tuple #[.iface 72 (.agg #[.int .i64 0, .int .i64 0, .int .i64 n, .bool true, .bool false, .bool true, .int .i64 t, .int .i64 v]), (.agg #[.int .i64 0, .int .i64 0, .int .i64 0, .int .u32 0, .int .u32 0, .int .i64 0, .int .u32 0, .int .u32 0]), .bool true]) (by simp [results, Try.results45, go_sem, a0, a1, a2, a3, a4, a5, a6, a7, k0, k1, k2, k3, k4, k5, k6, k7]) rfl ⟨rfl, (by repeat' (first | with_reducible exact Below.refl _ _ | with_reducible assumption | with_reducible refine Below.alloc ?_ ?_ _ | with_reducible refine Below.setCell ?_ ?_ _ | with_reducible refine Below.drew ?_ | with_reducible refine below_drewN ?_ _ | with_reducible refine Below.trans ?_ (Below.mono (by with_reducible assumption) ?_) | omega | (simp <;> omega)))⟩

set_option maxHeartbeats 1000000 in
theorem next_one_swap (n t a v r f : Int) (k : Bool) (w : World) (_h0 : 0 ≤ t) (_h1 : t ≤ 1000000) (hm : ¬ wrap64 (v + n) = v) :
    Calls Try.prog 45 #[(.agg #[.int .i64 0, .int .i64 0, .int .i64 n, .bool true, .bool false, .bool false, .int .i64 t, .int .i64 a]), (.agg #[.int .i64 v, .int .u32 r, .int .u32 f, .bool k])] w fun e w' => e = .returned (.tuple #[.iface 72 (.agg #[.int .i64 0, .int .i64 0, .int .i64 n, .bool true, .bool true, .bool false, .int .i64 t, .int .i64 a]), (.agg #[.int .i64 6, .int .i64 0, .int .i64 v, .int .u32 r, .int .u32 f, .int .i64 (wrap64 (v + n)), .int .u32 r, .int .u32 f]), .bool false]) ∧ Below w.heap.size w w' := by
  have hm2 : (wrap64 (v + n) == v) = false := by simpa using hm
  obtain ⟨m, hmm⟩ : ∃ m, m = wrap64 (v + n) := ⟨_, rfl⟩
  rw [← hmm] at hm2
  have HM := hide hmm
  clear hmm hm
  rw [← HM.out]
  go_enter Try.func45, Try.ntmps45
  go_wp2_with fail
  refine (do_any v n _).mono ?_
  rintro e w1 ⟨rfl, hb1⟩
  rw [← HM.out]
  obtain ⟨hcc1, hff1⟩ := bcell hb1; have hs1 := hb1.size; (try simp at hs1); have hz1 : w.heap.size < w1.heap.size := (by omega)
  have hz2 : w.heap.size + 1 < w1.heap.size := by omega
  have hz3 : w.heap.size + 1 + 1 < w1.heap.size := by omega
  have k0 : w1.cell? ⟨w.heap.size, 0, none⟩ = some (.int .i64 0) := by go_simp
  have k1 : w1.cell? ⟨w.heap.size, 1, none⟩ = some (.int .i64 0) := by go_simp
  have k2 : w1.cell? ⟨w.heap.size, 2, none⟩ = some (.int .i64 n) := by go_simp
  have k3 : w1.cell? ⟨w.heap.size, 3, none⟩ = some (.bool true) := by go_simp
  have k4 : w1.cell? ⟨w.heap.size, 4, none⟩ = some (.bool false) := by go_simp
  have k5 : w1.cell? ⟨w.heap.size, 5, none⟩ = some (.bool false) := by go_simp
  have k6 : w1.cell? ⟨w.heap.size, 6, none⟩ = some (.int .i64 t) := by go_simp
  have k7 : w1.cell? ⟨w.heap.size, 7, none⟩ = some (.int .i64 a) := by go_simp
  have g0 : w1.cell? ⟨w.heap.size + 1, 0, none⟩ = some (.int .i64 v) := by go_simp
  have g1 : w1.cell? ⟨w.heap.size + 1, 1, none⟩ = some (.int .u32 r) := by go_simp
  have g2 : w1.cell? ⟨w.heap.size + 1, 2, none⟩ = some (.int .u32 f) := by go_simp
  have g3 : w1.cell? ⟨w.heap.size + 1, 3, none⟩ = some (.bool k) := by go_simp
  have a0 : w1.cell? ⟨w.heap.size + 1 + 1, 0, none⟩ = some (.int .i64 0) := by go_simp
  have a1 : w1.cell? ⟨w.heap.size + 1 + 1, 1, none⟩ = some (.int .i64 0) := by go_simp
  have a2 : w1.cell? ⟨w.heap.size + 1 + 1, 2, none⟩ = some (.int .i64 0) := by go_simp
  have a3 : w1.cell? ⟨w.heap.size + 1 + 1, 3, none⟩ = some (.int .u32 0) := by go_simp
  have a4 : w1.cell? ⟨w.heap.size + 1 + 1, 4, none⟩ = some (.int .u32 0) := by go_simp
  have a5 : w1.cell? ⟨w.heap.size + 1 + 1, 5, none⟩ = some (.int .i64 0) := by go_simp
  have a6 : w1.cell? ⟨w.heap.size + 1 + 1, 6, none⟩ = some (.int .u32 0) := by go_simp
  have a7 : w1.cell? ⟨w.heap.size + 1 + 1, 7, none⟩ = some (.int .u32 0) := by go_simp
  have hB1 : Below w.heap.size w w1 := (by repeat' (first | with_reducible exact Below.refl _ _ | with_reducible assumption | with_reducible refine Below.alloc ?_ ?_ _ | with_reducible refine Below.setCell ?_ ?_ _ | with_reducible refine Below.drew ?_ | with_reducible refine below_drewN ?_ _ | with_reducible refine Below.trans ?_ (Below.mono (by with_reducible assumption) ?_) | omega | (simp <;> omega)))
  have q3 : w1.frozen? ⟨w.heap.size, 3, none⟩ = false := by go_simp
  have q4 : w1.frozen? ⟨w.heap.size, 4, none⟩ = false := by go_simp
  have q5 : w1.frozen? ⟨w.heap.size, 7, none⟩ = false := by go_simp
  have q6 : w1.frozen? ⟨w.heap.size, 5, none⟩ = false := by go_simp
  have p0 : ∀ o, w1.frozen? ⟨w.heap.size + 1 + 1, o, none⟩ = false := fun o => by rw [hff1 _ _ (by simp)]; exact World.frozen?_alloc_at _ _ _ _ (by simp)
  clear hcc1 hff1 hb1
  go_wp2
  go_region
  all_goals go_wp2
  all_goals exact bodyPost_ret (v := .tuple #[.iface 72 (.agg #[.int .i64 0, .int .i64 0, .int .i64 n, .bool true, .bool true, .bool false, .int .i64 t, .int .i64 a]), (.agg #[.int .i64 6, .int .i64 0, .int .i64 v, .int .u32 r, .int .u32 f, .int .i64 m, .int .u32 r, .int .u32 f]), .bool false]) (by simp [results, Try.results45, go_sem, a0, a1, a2, a3, a4, a5, a6, a7, hz3]) rfl ⟨rfl, (by repeat' (first | with_reducible exact Below.refl _ _ | with_reducible assumption | with_reducible refine Below.alloc ?_ ?_ _ | with_reducible refine Below.setCell ?_ ?_ _ | with_reducible refine Below.drew ?_ | with_reducible refine below_drewN ?_ _ | with_reducible refine Below.trans ?_ (Below.mono (by with_reducible assumption) ?_) | omega | (simp <;> omega)))⟩

set_option maxHeartbeats 1000000 in
theorem next_two_same (n t a v r f : Int) (w : World) (_h0 : 0 ≤ t) (_h1 : t ≤ 1000000) (hm : wrap64 (v + n) = v) :
    Calls Try.prog 45 #[(.agg #[.int .i64 0, .int .i64 0, .int .i64 n, .bool true, .bool true, .bool false, .int .i64 t, .int .i64 a]), (.agg #[.int .i64 v, .int .u32 r, .int .u32 f, .bool false])] w fun e w' => e = .returned (.tuple #[.iface 72 (.agg #[.int .i64 0, .int .i64 0, .int .i64 n, .bool true, .bool true, .bool true, .int .i64 (t + 1), .int .i64 v]), (.agg #[.int .i64 0, .int .i64 0, .int .i64 0, .int .u32 0, .int .u32 0, .int .i64 0, .int .u32 0, .int .u32 0]), .bool true]) ∧ Below w.heap.size w w' := by
  have HM := hide hm
  clear hm
  go_enter Try.func45, Try.ntmps45
  go_wp2_with fail
  refine (do_any v n _).mono ?_
  rintro e w1 ⟨rfl, hb1⟩
  rw [HM.out]
  obtain ⟨hcc1, hff1⟩ := bcell hb1; have hs1 := hb1.size; (try simp at hs1); have hz1 : w.heap.size < w1.heap.size := (by omega)
  have hz2 : w.heap.size + 1 < w1.heap.size := by omega
  have hz3 : w.heap.size + 1 + 1 < w1.heap.size := by omega
  have k0 : w1.cell? ⟨w.heap.size, 0, none⟩ = some (.int .i64 0) := by go_simp
  have k1 : w1.cell? ⟨w.heap.size, 1, none⟩ = some (.int .i64 0) := by go_simp
  have k2 : w1.cell? ⟨w.heap.size, 2, none⟩ = some (.int .i64 n) := by go_simp
  have k3 : w1.cell? ⟨w.heap.size, 3, none⟩ = some (.bool true) := by go_simp
  have k4 : w1.cell? ⟨w.heap.size, 4, none⟩ = some (.bool true) := by go_simp
  have k5 : w1.cell? ⟨w.heap.size, 5, none⟩ = some (.bool false) := by go_simp
  have k6 : w1.cell? ⟨w.heap.size, 6, none⟩ = some (.int .i64 (t + 1)) := by go_simp
  have k7 : w1.cell? ⟨w.heap.size, 7, none⟩ = some (.int .i64 a) := by go_simp
  have g0 : w1.cell? ⟨w.heap.size + 1, 0, none⟩ = some (.int .i64 v) := by go_simp
  have g1 : w1.cell? ⟨w.heap.size + 1, 1, none⟩ = some (.int .u32 r) := by go_simp
  have g2 : w1.cell? ⟨w.heap.size + 1, 2, none⟩ = some (.int .u32 f) := by go_simp
  have g3 : w1.cell? ⟨w.heap.size + 1, 3, none⟩ = some (.bool false) := by go_simp
  have a0 : w1.cell? ⟨w.heap.size + 1 + 1, 0, none⟩ = some (.int .i64 0) := by go_simp
  have a1 : w1.cell? ⟨w.heap.size + 1 + 1, 1, none⟩ = some (.int .i64 0) := by go_simp
  have a2 : w1.cell? ⟨w.heap.size + 1 + 1, 2, none⟩ = some (.int .i64 0) := by go_simp
  have a3 : w1.cell? ⟨w.heap.size + 1 + 1, 3, none⟩ = some (.int .u32 0) := by go_simp
  have a4 : w1.cell? ⟨w.heap.size + 1 + 1, 4, none⟩ = some (.int .u32 0) := by go_simp
  have a5 : w1.cell? ⟨w.heap.size + 1 + 1, 5, none⟩ = some (.int .i64 0) := by go_simp
  have a6 : w1.cell? ⟨w.heap.size + 1 + 1, 6, none⟩ = some (.int .u32 0) := by go_simp
  have a7 : w1.cell? ⟨w.heap.size + 1 + 1, 7, none⟩ = some (.int .u32 0) := by go_simp
  have hB1 : Below w.heap.size w w1 := (by repeat' (first | with_reducible exact Below.refl _ _ | with_reducible assumption | with_reducible refine Below.alloc ?_ ?_ _ | with_reducible refine Below.setCell ?_ ?_ _ | with_reducible refine Below.drew ?_ | with_reducible refine below_drewN ?_ _ | with_reducible refine Below.trans ?_ (Below.mono (by with_reducible assumption) ?_) | omega | (simp <;> omega)))
  have q3 : w1.frozen? ⟨w.heap.size, 3, none⟩ = false := by go_simp
  have q4 : w1.frozen? ⟨w.heap.size, 4, none⟩ = false := by go_simp
  have q5 : w1.frozen? ⟨w.heap.size, 7, none⟩ = false := by go_simp
  have q6 : w1.frozen? ⟨w.heap.size, 5, none⟩ = false := by go_simp
  have p0 : ∀ o, w1.frozen? ⟨w.heap.size + 1 + 1, o, none⟩ = false := fun o => by rw [hff1 _ _ (by simp)]; exact World.frozen?_alloc_at _ _ _ _ (by simp)
  clear hcc1 hff1 hb1
  go_wp2
  exact bodyPost_ret (v := .tuple #[.iface 72 (.agg #[.int .i64 0, .int .i64 0, .int .i64 n, .bool true, .bool true, .bool true, .int .i64 (t + 1), .int .i64 v]), (.agg #[.int .i64 0, .int .i64 0, .int .i64 0, .int .u32 0, .int .u32 0, .int .i64 0, .int .u32 0, .int .u32 0]), .bool true]) (by simp [results, Try.results45, go_sem, a0, a1, a2, a3, a4, a5, a6, a7, k0, k1, k2, k3, k4, k5, k6, k7]) rfl ⟨rfl, (by repeat' (first | with_reducible exact Below.refl _ _ | with_reducible assumption | with_reducible refine Below.alloc ?_ ?_ _ | with_reducible refine Below.setCell ?_ ?_ _ | with_reducible refine Below.drew ?_ | with_reducible refine below_drewN ?_ _ | with_reducible refine Below.trans ?_ (Below.mono (by with_reducible assumption) ?_) | omega | (simp <;> omega)))⟩

set_option maxHeartbeats 1000000 in
theorem next_two_swap (n t a v r f : Int) (w : World) (_h0 : 0 ≤ t) (_h1 : t ≤ 1000000) (hm : ¬ wrap64 (v + n) = v) :
    Calls Try.prog 45 #[(.agg #[.int .i64 0, .int .i64 0, .int .i64 n, .bool true, .bool true, .bool false, .int .i64 t, .int .i64 a]), (.agg #[.int .i64 v, .int .u32 r, .int .u32 f, .bool false])] w fun e w' => e = .returned (.tuple #[.iface 72 (.agg #[.int .i64 0, .int .i64 0, .int .i64 n, .bool true, .bool true, .bool false, .int .i64 (t + 1), .int .i64 a]), (.agg #[.int .i64 6, .int .i64 0, .int .i64 v, .int .u32 r, .int .u32 f, .int .i64 (wrap64 (v + n)), .int .u32 r, .int .u32 f]), .bool false]) ∧ Below w.heap.size w w' := by
  have hm2 : (wrap64 (v + n) == v) = false := by simpa using hm
  obtain ⟨m, hmm⟩ : ∃ m, m = wrap64 (v + n) := ⟨_, rfl⟩
  rw [← hmm] at hm2
  have HM := hide hmm
  clear hmm hm
  rw [← HM.out]
  go_enter Try.func45, Try.ntmps45
  go_wp2_with fail
  refine (do_any v n _).mono ?_
  rintro e w1 ⟨rfl, hb1⟩
  rw [← HM.out]
  obtain ⟨hcc1, hff1⟩ := bcell hb1; have hs1 := hb1.size; (try simp at hs1); have hz1 : w.heap.size < w1.heap.size := (by omega)
  have hz2 : w.heap.size + 1 < w1.heap.size := by omega
  have hz3 : w.heap.size + 1 + 1 < w1.heap.size := by omega
  have k0 : w1.cell? ⟨w.heap.size, 0, none⟩ = some (.int .i64 0) := by go_simp
  have k1 : w1.cell? ⟨w.heap.size, 1, none⟩ = some (.int .i64 0) := by go_simp
  have k2 : w1.cell? ⟨w.heap.size, 2, none⟩ = some (.int .i64 n) := by go_simp
  have k3 : w1.cell? ⟨w.heap.size, 3, none⟩ = some (.bool true) := by go_simp
  have k4 : w1.cell? ⟨w.heap.size, 4, none⟩ = some (.bool true) := by go_simp
  have k5 : w1.cell? ⟨w.heap.size, 5, none⟩ = some (.bool false) := by go_simp
  have k6 : w1.cell? ⟨w.heap.size, 6, none⟩ = some (.int .i64 (t + 1)) := by go_simp
  have k7 : w1.cell? ⟨w.heap.size, 7, none⟩ = some (.int .i64 a) := by go_simp
  have g0 : w1.cell? ⟨w.heap.size + 1, 0, none⟩ = some (.int .i64 v) := by go_simp
  have g1 : w1.cell? ⟨w.heap.size + 1, 1, none⟩ = some (.int .u32 r) := by go_simp
  have g2 : w1.cell? ⟨w.heap.size + 1, 2, none⟩ = some (.int .u32 f) := by go_simp
  have g3 : w1.cell? ⟨w.heap.size + 1, 3, none⟩ = some (.bool false) := by go_simp
  have a0 : w1.cell? ⟨w.heap.size + 1 + 1, 0, none⟩ = some (.int .i64 0) := by go_simp
  have a1 : w1.cell? ⟨w.heap.size + 1 + 1, 1, none⟩ = some (.int .i64 0) := by go_simp
  have a2 : w1.cell? ⟨w.heap.size + 1 + 1, 2, none⟩ = some (.int .i64 0) := by go_simp
  have a3 : w1.cell? ⟨w.heap.size + 1 + 1, 3, none⟩ = some (.int .u32 0) := by go_simp
  have a4 : w1.cell? ⟨w.heap.size + 1 + 1, 4, none⟩ = some (.int .u32 0) := by go_simp
  have a5 : w1.cell? ⟨w.heap.size + 1 + 1, 5, none⟩ = some (.int .i64 0) := by go_simp
  have a6 : w1.cell? ⟨w.heap.size + 1 + 1, 6, none⟩ = some (.int .u32 0) := by go_simp
  have a7 : w1.cell? ⟨w.heap.size + 1 + 1, 7, none⟩ = some (.int .u32 0) := by go_simp
  have hB1 : Below w.heap.size w w1 := (by repeat' (first | with_reducible exact Below.refl _ _ | with_reducible assumption | with_reducible refine Below.alloc ?_ ?_ _ | with_reducible refine Below.setCell ?_ ?_ _ | with_reducible refine Below.drew ?_ | with_reducible refine below_drewN ?_ _ | with_reducible refine Below.trans ?_ (Below.mono (by with_reducible assumption) ?_) | omega | (simp <;> omega)))
  have q3 : w1.frozen? ⟨w.heap.size, 3, none⟩ = false := by go_simp
  have q4 : w1.frozen? ⟨w.heap.size, 4, none⟩ = false := by go_simp
  have q5 : w1.frozen? ⟨w.heap.size, 7, none⟩ = false := by go_simp
  have q6 : w1.frozen? ⟨w.heap.size, 5, none⟩ = false := by go_simp
  have p0 : ∀ o, w1.frozen? ⟨w.heap.size + 1 + 1, o, none⟩ = false := fun o => by rw [hff1 _ _ (by simp)]; exact World.frozen?_alloc_at _ _ _ _ (by simp)
  clear hcc1 hff1 hb1
  go_wp2
  go_region
  all_goals go_wp2
  all_goals exact bodyPost_ret (v := .tuple #[.iface 72 (.agg #[.int .i64 0, .int .i64 0, .int .i64 n, .bool true, .bool true, .bool false, .int .i64 (t + 1), .int .i64 a]), (.agg #[.int .i64 6, .int .i64 0, .int .i64 v, .int .u32 r, .int .u32 f, .int .i64 m, .int .u32 r, .int .u32 f]), .bool false]) (by simp [results, Try.results45, go_sem, a0, a1, a2, a3, a4, a5, a6, a7, hz3]) rfl ⟨rfl, (by repeat' (first | with_reducible exact Below.refl _ _ | with_reducible assumption | with_reducible refine Below.alloc ?_ ?_ _ | with_reducible refine Below.setCell ?_ ?_ _ | with_reducible refine Below.drew ?_ | with_reducible refine below_drewN ?_ _ | with_reducible refine Below.trans ?_ (Below.mono (by with_reducible assumption) ?_) | omega | (simp <;> omega)))⟩
end Go.Proofs.Ytfldjbojonbmpaa
