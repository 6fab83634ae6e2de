/- The contracts of package progress (layer 61) and of its reference, called from the three statements on the counters: what each function returns, for counts up to a million. -/
import Derived.Test.YtmpbaanlagmacaaProg
import Derived.Test.YtmpbaanlagmacaaLib
import Derived.WalkKit
import Derived.WalkSpells
import Derived.WalkLawsBesides
namespace Go.Proofs.Ytmpbaanlagmacaa
open Go.RowKit

set_option maxHeartbeats 400000 in
theorem new_ok (n : Int) (w : World) (h1 : 1 ≤ n) (h2 : n ≤ 8) :
    Calls Try.prog 16 #[.int .i64 n] w fun e w' => e = .returned (.tuple #[.agg #[.int .i64 0, .int .i64 0, .int .i64 0, .int .i64 n], .int .i64 0]) ∧ Below w.heap.size w w' := by
  go_enter Try.func16, Try.ntmps16
  go_wp2
  exact bodyPost_ret (v := .tuple #[.agg #[.int .i64 0, .int .i64 0, .int .i64 0, .int .i64 n], .int .i64 0]) (by simp [results, Try.results16, go_sem]) rfl ⟨rfl, (Below.refl _ _).alloc (Nat.le_refl _) _⟩

set_option maxHeartbeats 400000 in
theorem new_no (n : Int) (w : World) (h : n < 1 ∨ 8 < n) :
    Calls Try.prog 16 #[.int .i64 n] w fun e w' => e = .returned (.tuple #[.agg #[.int .i64 0, .int .i64 0, .int .i64 0, .int .i64 0], .int .i64 3]) ∧ Below w.heap.size w w' := by
  by_cases h1 : n < 1
  · go_enter Try.func16, Try.ntmps16
    go_wp2
    exact bodyPost_ret (v := .tuple #[.agg #[.int .i64 0, .int .i64 0, .int .i64 0, .int .i64 0], .int .i64 3]) (by simp [results, Try.results16, go_sem]) rfl ⟨rfl, (Below.refl _ _).alloc (Nat.le_refl _) _⟩
  · have h2 : 8 < n := by omega
    go_enter Try.func16, Try.ntmps16
    go_wp2
    exact bodyPost_ret (v := .tuple #[.agg #[.int .i64 0, .int .i64 0, .int .i64 0, .int .i64 0], .int .i64 3]) (by simp [results, Try.results16, go_sem]) rfl ⟨rfl, (Below.refl _ _).alloc (Nat.le_refl _) _⟩

/-- The greater of two counts, as the meter keeps it. -/
def gmax (a b : Int) : Int := if a < b then b else a
theorem gmax_lt {a b : Int} (h : a < b) : gmax a b = b := if_pos h
theorem gmax_ge {a b : Int} (h : b ≤ a) : gmax a b = a := if_neg (by omega)

set_option maxHeartbeats 400000 in
theorem step_lt (s wo o n t : Int) (w : World) (h0 : 0 ≤ s) (h1 : s ≤ 1000000) (ht : 1 ≤ t) (hn : t ≤ n) (hm : wo < s + 1) :
    Calls Try.prog 17 #[.agg #[.int .i64 s, .int .i64 wo, .int .i64 o, .int .i64 n], .int .i64 t] w fun e w' => e = .returned (.agg #[.int .i64 (s + 1), .int .i64 (s + 1), .int .i64 o, .int .i64 n]) ∧ Below w.heap.size w w' := by
  go_enter Try.func17, Try.ntmps17
  go_wp2
  exact bodyPost_ret (v := .agg #[.int .i64 (s + 1), .int .i64 (s + 1), .int .i64 o, .int .i64 n]) (by simp [results, Try.results17, go_sem]) rfl ⟨rfl, (((Below.refl _ _).alloc (Nat.le_refl _) _).alloc (by simp <;> omega) _).alloc (by simp <;> omega) _⟩
set_option maxHeartbeats 400000 in
theorem step_ge (s wo o n t : Int) (w : World) (h0 : 0 ≤ s) (h1 : s ≤ 1000000) (ht : 1 ≤ t) (hn : t ≤ n) (hm : s + 1 ≤ wo) :
    Calls Try.prog 17 #[.agg #[.int .i64 s, .int .i64 wo, .int .i64 o, .int .i64 n], .int .i64 t] w fun e w' => e = .returned (.agg #[.int .i64 (s + 1), .int .i64 wo, .int .i64 o, .int .i64 n]) ∧ Below w.heap.size w w' := by
  go_enter Try.func17, Try.ntmps17
  go_wp2
  exact bodyPost_ret (v := .agg #[.int .i64 (s + 1), .int .i64 wo, .int .i64 o, .int .i64 n]) (by simp [results, Try.results17, go_sem]) rfl ⟨rfl, (((Below.refl _ _).alloc (Nat.le_refl _) _).alloc (by simp <;> omega) _).alloc (by simp <;> omega) _⟩
theorem step_yes (s wo o n t : Int) (w : World) (h0 : 0 ≤ s) (h1 : s ≤ 1000000) (ht : 1 ≤ t) (hn : t ≤ n) :
    Calls Try.prog 17 #[.agg #[.int .i64 s, .int .i64 wo, .int .i64 o, .int .i64 n], .int .i64 t] w fun e w' => e = .returned (.agg #[.int .i64 (s + 1), .int .i64 (gmax wo (s + 1)), .int .i64 o, .int .i64 n]) ∧ Below w.heap.size w w' := by
  by_cases hm : wo < s + 1
  · rw [gmax_lt hm]
    exact step_lt s wo o n t w h0 h1 ht hn hm
  · rw [gmax_ge (by omega)]
    exact step_ge s wo o n t w h0 h1 ht hn (by omega)

set_option maxHeartbeats 400000 in
theorem step_no (s wo o n t : Int) (w : World) (h : t < 1 ∨ n < t) :
    Calls Try.prog 17 #[.agg #[.int .i64 s, .int .i64 wo, .int .i64 o, .int .i64 n], .int .i64 t] w fun e w' => e = .returned (.agg #[.int .i64 s, .int .i64 wo, .int .i64 o, .int .i64 n]) ∧ Below w.heap.size w w' := by
  by_cases h1 : t < 1
  all_goals
    go_enter Try.func17, Try.ntmps17
    go_wp2
    exact bodyPost_ret (v := .agg #[.int .i64 s, .int .i64 wo, .int .i64 o, .int .i64 n]) (by simp [results, Try.results17, go_sem]) rfl ⟨rfl, (((Below.refl _ _).alloc (Nat.le_refl _) _).alloc (by simp <;> omega) _).alloc (by simp <;> omega) _⟩

set_option maxHeartbeats 400000 in
theorem done_yes (s wo o n t : Int) (w : World) (h0 : 0 ≤ o) (h1 : o ≤ 1000000) (ht : 1 ≤ t) (hn : t ≤ n) :
    Calls Try.prog 18 #[.agg #[.int .i64 s, .int .i64 wo, .int .i64 o, .int .i64 n], .int .i64 t] w fun e w' => e = .returned (.agg #[.int .i64 0, .int .i64 wo, .int .i64 (o + 1), .int .i64 n]) ∧ Below w.heap.size w w' := by
  go_enter Try.func18, Try.ntmps18
  go_wp2
  exact bodyPost_ret (v := .agg #[.int .i64 0, .int .i64 wo, .int .i64 (o + 1), .int .i64 n]) (by simp [results, Try.results18, go_sem]) rfl ⟨rfl, (((Below.refl _ _).alloc (Nat.le_refl _) _).alloc (by simp <;> omega) _).alloc (by simp <;> omega) _⟩

set_option maxHeartbeats 400000 in
theorem done_no (s wo o n t : Int) (w : World) (h : t < 1 ∨ n < t) :
    Calls Try.prog 18 #[.agg #[.int .i64 s, .int .i64 wo, .int .i64 o, .int .i64 n], .int .i64 t] w fun e w' => e = .returned (.agg #[.int .i64 s, .int .i64 wo, .int .i64 o, .int .i64 n]) ∧ Below w.heap.size w w' := by
  by_cases h1 : t < 1
  all_goals
    go_enter Try.func18, Try.ntmps18
    go_wp2
    exact bodyPost_ret (v := .agg #[.int .i64 s, .int .i64 wo, .int .i64 o, .int .i64 n]) (by simp [results, Try.results18, go_sem]) rfl ⟨rfl, (((Below.refl _ _).alloc (Nat.le_refl _) _).alloc (by simp <;> omega) _).alloc (by simp <;> omega) _⟩

theorem worst_any (s wo o n : Int) (w : World) :
    Calls Try.prog 20 #[.agg #[.int .i64 s, .int .i64 wo, .int .i64 o, .int .i64 n]] w fun e w' => e = .returned (.int .i64 wo) ∧ Below w.heap.size w w' := by
  go_enter Try.func20, Try.ntmps20
  go_wp2
  go_ret
  exact ⟨rfl, (Below.refl _ _).alloc (Nat.le_refl _) _⟩
theorem since_any (s wo o n : Int) (w : World) :
    Calls Try.prog 21 #[.agg #[.int .i64 s, .int .i64 wo, .int .i64 o, .int .i64 n]] w fun e w' => e = .returned (.int .i64 s) ∧ Below w.heap.size w w' := by
  go_enter Try.func21, Try.ntmps21
  go_wp2
  go_ret
  exact ⟨rfl, (Below.refl _ _).alloc (Nat.le_refl _) _⟩
theorem ops_any (s wo o n : Int) (w : World) :
    Calls Try.prog 22 #[.agg #[.int .i64 s, .int .i64 wo, .int .i64 o, .int .i64 n]] w fun e w' => e = .returned (.int .i64 o) ∧ Below w.heap.size w w' := by
  go_enter Try.func22, Try.ntmps22
  go_wp2
  go_ret
  exact ⟨rfl, (Below.refl _ _).alloc (Nat.le_refl _) _⟩

/-- The bound, of the program and of the reference alike. -/
def bnd (t n : Int) : Int := if t < 1 ∨ 8 < t ∨ n < 1 ∨ 32 < n then 0 else 4000 * t * n

theorem prod_bd (t n : Int) (h1 : 1 ≤ t) (h2 : t ≤ 8) (h3 : 1 ≤ n) (h4 : n ≤ 32) : 0 ≤ 4000 * t * n ∧ 4000 * t * n ≤ 2000000 := by
  have ht : t = 1 ∨ t = 2 ∨ t = 3 ∨ t = 4 ∨ t = 5 ∨ t = 6 ∨ t = 7 ∨ t = 8 := by omega
  rcases ht with rfl | rfl | rfl | rfl | rfl | rfl | rfl | rfl <;> omega

set_option maxHeartbeats 400000 in
theorem bound_any (t n : Int) (w : World) : Calls Try.prog 23 #[.int .i64 t, .int .i64 n] w fun e w' => e = .returned (.int .i64 (bnd t n)) ∧ w = w' := by
  unfold bnd
  by_cases h1 : t < 1
  · rw [if_pos (by omega)]
    go_enter Try.func23, Try.ntmps23
    go_wp2
    go_ret
    exact ⟨rfl, rfl⟩
  by_cases h2 : 8 < t
  · rw [if_pos (by omega)]
    go_enter Try.func23, Try.ntmps23
    go_wp2
    go_ret
    exact ⟨rfl, rfl⟩
  by_cases h3 : n < 1
  · rw [if_pos (by omega)]
    go_enter Try.func23, Try.ntmps23
    go_wp2
    go_ret
    exact ⟨rfl, rfl⟩
  by_cases h4 : 32 < n
  · rw [if_pos (by omega)]
    go_enter Try.func23, Try.ntmps23
    go_wp2
    go_ret
    exact ⟨rfl, rfl⟩
  · rw [if_neg (by omega)]
    have hb := prod_bd t n (by omega) (by omega) (by omega) (by omega)
    go_enter Try.func23, Try.ntmps23
    go_wp2
    go_ret
    exact ⟨rfl, rfl⟩

set_option maxHeartbeats 400000 in
theorem refbound_any (t n : Int) (w : World) : Calls Try.prog 24 #[.int .i64 t, .int .i64 n] w fun e w' => e = .returned (.int .i64 (bnd t n)) ∧ w = w' := by
  unfold bnd
  by_cases h1 : t < 1
  · rw [if_pos (by omega)]
    go_enter Try.func24, Try.ntmps24
    go_wp2
    go_ret
    exact ⟨rfl, rfl⟩
  by_cases h2 : 8 < t
  · rw [if_pos (by omega)]
    go_enter Try.func24, Try.ntmps24
    go_wp2
    go_ret
    exact ⟨rfl, rfl⟩
  by_cases h3 : n < 1
  · rw [if_pos (by omega)]
    go_enter Try.func24, Try.ntmps24
    go_wp2
    go_ret
    exact ⟨rfl, rfl⟩
  by_cases h4 : 32 < n
  · rw [if_pos (by omega)]
    go_enter Try.func24, Try.ntmps24
    go_wp2
    go_ret
    exact ⟨rfl, rfl⟩
  · rw [if_neg (by omega)]
    have hb := prod_bd t n (by omega) (by omega) (by omega) (by omega)
    go_enter Try.func24, Try.ntmps24
    go_wp2
    go_ret
    exact ⟨rfl, rfl⟩

set_option maxHeartbeats 1000000 in
/-- The document's example. -/
theorem awake61_any (w : World) : Calls Try.prog 15 #[] w fun e w' => e = .returned (.bool true) ∧ Below w.heap.size w w' := by
  go_enter Try.func15, Try.ntmps15
  go_wp2_with (first
    | (go_at_call 16; refine (new_ok 2 _ (by omega) (by omega)).mono ?_; rintro e w1 ⟨rfl, hb1⟩; have hz1 := hb1.size)
    | (go_at_call 17; refine (step_lt _ _ _ _ _ _ (by omega) (by omega) (by omega) (by omega) (by omega)).mono ?_; rintro e w2 ⟨rfl, hb2⟩; obtain ⟨hc2, hf2⟩ := bcell hb2; have hz2 : w1.heap.size < w2.heap.size := (by have h := hb2.size; (try simp at h); omega))
    | (go_at_call 17; refine (step_ge _ _ _ _ _ _ (by omega) (by omega) (by omega) (by omega) (by omega)).mono ?_; rintro e w2 ⟨rfl, hb2⟩; obtain ⟨hc2, hf2⟩ := bcell hb2; have hz2 : w1.heap.size < w2.heap.size := (by have h := hb2.size; (try simp at h); omega))
    | (go_at_call 18; refine (done_yes _ _ _ _ _ _ (by omega) (by omega) (by omega) (by omega)).mono ?_; rintro e w2 ⟨rfl, hb2⟩; obtain ⟨hc2, hf2⟩ := bcell hb2; have hz2 : w1.heap.size < w2.heap.size := (by have h := hb2.size; (try simp at h); omega))
    | (go_at_call 20; refine (worst_any _ _ _ _ _).mono ?_; rintro e w2 ⟨rfl, hb2⟩; obtain ⟨hc2, hf2⟩ := bcell hb2; have hz2 : w1.heap.size < w2.heap.size := (by have h := hb2.size; (try simp at h); omega))
    | (go_at_call 21; refine (since_any _ _ _ _ _).mono ?_; rintro e w2 ⟨rfl, hb2⟩; obtain ⟨hc2, hf2⟩ := bcell hb2; have hz2 : w1.heap.size < w2.heap.size := (by have h := hb2.size; (try simp at h); omega))
    | (go_at_call 22; refine (ops_any _ _ _ _ _).mono ?_; rintro e w2 ⟨rfl, hb2⟩; obtain ⟨hc2, hf2⟩ := bcell hb2; have hz2 : w1.heap.size < w2.heap.size := (by have h := hb2.size; (try simp at h); omega))
    | (go_at_call 23; refine (bound_any _ _ _).mono ?_; rintro e w2 ⟨rfl, rfl⟩; rw [show bnd 2 3 = 24000 from rfl]))
  go_ret
  exact ⟨rfl, (by repeat' (first | with_reducible exact Below.refl _ _ | with_reducible assumption | with_reducible refine Below.alloc ?_ ?_ _ | with_reducible refine Below.setCell ?_ ?_ _ | with_reducible refine Below.drew ?_ | with_reducible refine Below.trans ?_ (Below.mono (by with_reducible assumption) ?_) | omega | (simp <;> omega)))⟩
end Go.Proofs.Ytmpbaanlagmacaa
