/- The code's Next as a function; package advise: wrapped. -/
import Derived.Test.YtfldjbojonbmpaaW2
namespace Go.Proofs.Ytfldjbojonbmpaa
open Go.RowKit

structure CS where
  b : Bool
  s : Bool
  d : Bool
  t : Int
  a : Int
structure GS where
  v : Int
  r : Int
  f : Int
  k : Bool
structure AS where
  o : Int
  l : Int
  v : Int
  r : Int
  f : Int
  v2 : Int
  r2 : Int
  f2 : Int
def A0 : AS := ⟨0, 0, 0, 0, 0, 0, 0, 0⟩
def G0 : GS := ⟨0, 0, 0, false⟩
/-- One step of the code: the new state, the act, whether it is done. -/
def nxt (n : Int) (c : CS) (g : GS) : CS × AS × Bool :=
  if c.d then (c, A0, true)
  else if !c.b then (⟨true, c.s, false, c.t, c.a⟩, ⟨5, 0, 0, 0, 0, 0, 0, 0⟩, false)
  else if c.s && g.k then (⟨true, true, true, c.t + 1, g.v⟩, A0, true)
  else if wrap64 (g.v + n) = g.v then (⟨true, c.s, true, if c.s then c.t + 1 else c.t, g.v⟩, A0, true)
  else (⟨true, true, false, if c.s then c.t + 1 else c.t, c.a⟩, ⟨6, 0, g.v, g.r, g.f, wrap64 (g.v + n), g.r, g.f⟩, false)
theorem nxt_t (n : Int) (c : CS) (g : GS) (m : Int) (h0 : 0 ≤ c.t) (h1 : c.t ≤ m) : 0 ≤ (nxt n c g).1.t ∧ (nxt n c g).1.t ≤ m + 1 := by
  unfold nxt
  repeat' split
  all_goals (simp only []; omega)

theorem code_next (n : Int) (c : CS) (g : GS) (w : World) (h0 : 0 ≤ c.t) (h1 : c.t ≤ 1000000) :
    Calls Try.prog 45 #[(.agg #[.int .i64 0, .int .i64 0, .int .i64 n, .bool (c).b, .bool (c).s, .bool (c).d, .int .i64 (c).t, .int .i64 (c).a]), (.agg #[.int .i64 (g).v, .int .u32 (g).r, .int .u32 (g).f, .bool (g).k])] w fun e w' => e = .returned (.tuple #[.iface 72 (.agg #[.int .i64 0, .int .i64 0, .int .i64 n, .bool ((nxt n c g).1).b, .bool ((nxt n c g).1).s, .bool ((nxt n c g).1).d, .int .i64 ((nxt n c g).1).t, .int .i64 ((nxt n c g).1).a]), (.agg #[.int .i64 ((nxt n c g).2.1).o, .int .i64 ((nxt n c g).2.1).l, .int .i64 ((nxt n c g).2.1).v, .int .u32 ((nxt n c g).2.1).r, .int .u32 ((nxt n c g).2.1).f, .int .i64 ((nxt n c g).2.1).v2, .int .u32 ((nxt n c g).2.1).r2, .int .u32 ((nxt n c g).2.1).f2]), .bool (nxt n c g).2.2]) ∧ Below w.heap.size w w' := by
  obtain ⟨b, s, d, t, a⟩ := c
  obtain ⟨v, r, f, k⟩ := g
  cases d with
  | true => exact next_done n t a v r f b s k w
  | false =>
    cases b with
    | false => exact next_first n t a v r f s k w
    | true =>
      cases s with
      | false =>
        by_cases hm : wrap64 (v + n) = v
        · have h := next_one_same n t a v r f k w h0 h1 hm
          simpa [nxt, hm, A0] using h
        · have h := next_one_swap n t a v r f k w h0 h1 hm
          simpa [nxt, hm, A0] using h
      | true =>
        cases k with
        | true => exact next_ok n t a v r f w h0 h1
        | false =>
          by_cases hm : wrap64 (v + n) = v
          · have h := next_two_same n t a v r f w h0 h1 hm
            simpa [nxt, hm, A0] using h
          · have h := next_two_swap n t a v r f w h0 h1 hm
            simpa [nxt, hm, A0] using h

theorem code_nil (v : Value) (w : World) : (nilAhead 202 72 v "Next").run Try.prog w = .ok (some false) w := by kernel_rfl
theorem code_meth (v : Value) (w : World) : (method 202 72 v "Next").run Try.prog w = .ok (45, v) w := by kernel_rfl
theorem code_enter (args : Array Value) (w : World) : (callFunc 45 args).run Try.prog w = .ok (.enter 45 args) w := by rfl
theorem wr_nil (v : Value) (w : World) : (nilAhead 202 66 v "Next").run Try.prog w = .ok (some false) w := by kernel_rfl
theorem wr_meth (v : Value) (w : World) : (method 202 66 v "Next").run Try.prog w = .ok (44, v) w := by kernel_rfl
theorem wr_enter (args : Array Value) (w : World) : (callFunc 44 args).run Try.prog w = .ok (.enter 44 args) w := by rfl

theorem wn_left (T : TypeId) (p : Value) (l : Int) (b : Bool) (g : GS) (w : World) (h0 : 0 < l) (h1 : l ≤ 64) :
    Calls Try.prog 44 #[.agg #[.iface T p, .int .i64 l, .bool b], (.agg #[.int .i64 (g).v, .int .u32 (g).r, .int .u32 (g).f, .bool (g).k])] w fun e w' => e = .returned (.tuple #[.iface 66 (.agg #[.iface T p, .int .i64 (l - 1), .bool b]), (.agg #[.int .i64 (A0).o, .int .i64 (A0).l, .int .i64 (A0).v, .int .u32 (A0).r, .int .u32 (A0).f, .int .i64 (A0).v2, .int .u32 (A0).r2, .int .u32 (A0).f2]), .bool false]) ∧ Below w.heap.size w w' := by
  go_enter Try.func44, Try.ntmps44
  go_wp2
  exact bodyPost_ret (v := .tuple #[.iface 66 (.agg #[.iface T p, .int .i64 (l - 1), .bool b]), (.agg #[.int .i64 (A0).o, .int .i64 (A0).l, .int .i64 (A0).v, .int .u32 (A0).r, .int .u32 (A0).f, .int .i64 (A0).v2, .int .u32 (A0).r2, .int .u32 (A0).f2]), .bool false]) (by simp [results, Try.results44, go_sem, A0]) rfl ⟨rfl, (by repeat' (first | with_reducible exact Below.refl _ _ | with_reducible assumption | with_reducible refine Below.alloc ?_ ?_ _ | with_reducible refine Below.setCell ?_ ?_ _ | with_reducible refine Below.drew ?_ | with_reducible refine below_drewN ?_ _ | with_reducible refine Below.trans ?_ (Below.mono (by with_reducible assumption) ?_) | omega | (simp <;> omega)))⟩

theorem wn_inner (n : Int) (c : CS) (b : Bool) (g : GS) (w : World) (h0 : 0 ≤ c.t) (h1 : c.t ≤ 1000000) :
    Calls Try.prog 44 #[.agg #[.iface 72 (.agg #[.int .i64 0, .int .i64 0, .int .i64 n, .bool (c).b, .bool (c).s, .bool (c).d, .int .i64 (c).t, .int .i64 (c).a]), .int .i64 0, .bool b], (.agg #[.int .i64 (g).v, .int .u32 (g).r, .int .u32 (g).f, .bool (g).k])] w fun e w' => e = .returned (.tuple #[.iface 66 (.agg #[.iface 72 (.agg #[.int .i64 0, .int .i64 0, .int .i64 n, .bool ((nxt n c (if b then g else G0)).1).b, .bool ((nxt n c (if b then g else G0)).1).s, .bool ((nxt n c (if b then g else G0)).1).d, .int .i64 ((nxt n c (if b then g else G0)).1).t, .int .i64 ((nxt n c (if b then g else G0)).1).a]), .int .i64 0, .bool true]), (.agg #[.int .i64 ((nxt n c (if b then g else G0)).2.1).o, .int .i64 ((nxt n c (if b then g else G0)).2.1).l, .int .i64 ((nxt n c (if b then g else G0)).2.1).v, .int .u32 ((nxt n c (if b then g else G0)).2.1).r, .int .u32 ((nxt n c (if b then g else G0)).2.1).f, .int .i64 ((nxt n c (if b then g else G0)).2.1).v2, .int .u32 ((nxt n c (if b then g else G0)).2.1).r2, .int .u32 ((nxt n c (if b then g else G0)).2.1).f2]), .bool (nxt n c (if b then g else G0)).2.2]) ∧ Below w.heap.size w w' := by
  have hn := code_nil
  have hm := code_meth
  have he := code_enter
  cases b with
  | true =>
    simp only [reduceIte]
    obtain ⟨R, hR⟩ : ∃ R, R = nxt n c g := ⟨_, rfl⟩
    have HR := hide hR
    rw [← hR]
    clear hR
    go_enter Try.func44, Try.ntmps44
    go_wp2_with fail
    refine (code_next n c g _ h0 h1).mono ?_
    rintro e w1 ⟨rfl, hb1⟩
    rw [← HR.out]
    obtain ⟨hcc1, hff1⟩ := bcell hb1; have hs1 := hb1.size; (try simp at hs1); have hz1 : w.heap.size < w1.heap.size := (by omega)
    have hz2 : w.heap.size + 1 < w1.heap.size := by omega
    have hz3 : w.heap.size + 1 + 1 < w1.heap.size := by omega
    have k0 : w1.cell? ⟨w.heap.size, 0, none⟩ = some (.iface 72 (.agg #[.int .i64 0, .int .i64 0, .int .i64 n, .bool (c).b, .bool (c).s, .bool (c).d, .int .i64 (c).t, .int .i64 (c).a])) := by go_simp
    have k1 : w1.cell? ⟨w.heap.size, 1, none⟩ = some (.int .i64 0) := by go_simp
    have k2 : w1.cell? ⟨w.heap.size, 2, none⟩ = some (.bool true) := by go_simp
    have a0 : w1.cell? ⟨w.heap.size + 1 + 1, 0, none⟩ = some (.int .i64 0) := by go_simp
    have a1 : w1.cell? ⟨w.heap.size + 1 + 1, 1, none⟩ = some (.int .i64 0) := by go_simp
    have a2 : w1.cell? ⟨w.heap.size + 1 + 1, 2, none⟩ = some (.int .i64 0) := by go_simp
    have a3 : w1.cell? ⟨w.heap.size + 1 + 1, 3, none⟩ = some (.int .u32 0) := by go_simp
    have a4 : w1.cell? ⟨w.heap.size + 1 + 1, 4, none⟩ = some (.int .u32 0) := by go_simp
    have a5 : w1.cell? ⟨w.heap.size + 1 + 1, 5, none⟩ = some (.int .i64 0) := by go_simp
    have a6 : w1.cell? ⟨w.heap.size + 1 + 1, 6, none⟩ = some (.int .u32 0) := by go_simp
    have a7 : w1.cell? ⟨w.heap.size + 1 + 1, 7, none⟩ = some (.int .u32 0) := by go_simp
    have q0 : w1.frozen? ⟨w.heap.size, 0, none⟩ = false := by rw [hff1 _ _ (by simp <;> omega)]; go_simp
    have p0 : ∀ o, w1.frozen? ⟨w.heap.size + 1 + 1, o, none⟩ = false := fun o => by rw [hff1 _ _ (by simp)]; exact World.frozen?_alloc_at _ _ _ _ (by simp)
    have hB1 : Below w.heap.size w w1 := (by repeat' (first | with_reducible exact Below.refl _ _ | with_reducible assumption | with_reducible refine Below.alloc ?_ ?_ _ | with_reducible refine Below.setCell ?_ ?_ _ | with_reducible refine Below.drew ?_ | with_reducible refine below_drewN ?_ _ | with_reducible refine Below.trans ?_ (Below.mono (by with_reducible assumption) ?_) | omega | (simp <;> omega)))
    clear hcc1 hff1 hb1
    go_wp2_with fail
    go_region
    all_goals go_wp2
    all_goals exact bodyPost_ret (v := .tuple #[.iface 66 (.agg #[.iface 72 (.agg #[.int .i64 0, .int .i64 0, .int .i64 n, .bool (R.1).b, .bool (R.1).s, .bool (R.1).d, .int .i64 (R.1).t, .int .i64 (R.1).a]), .int .i64 0, .bool true]), (.agg #[.int .i64 (R.2.1).o, .int .i64 (R.2.1).l, .int .i64 (R.2.1).v, .int .u32 (R.2.1).r, .int .u32 (R.2.1).f, .int .i64 (R.2.1).v2, .int .u32 (R.2.1).r2, .int .u32 (R.2.1).f2]), .bool R.2.2]) (by simp [results, Try.results44, go_sem, a0, a1, a2, a3, a4, a5, a6, a7, hz3]) rfl ⟨rfl, (by repeat' (first | with_reducible exact Below.refl _ _ | with_reducible assumption | with_reducible refine Below.alloc ?_ ?_ _ | with_reducible refine Below.setCell ?_ ?_ _ | with_reducible refine Below.drew ?_ | with_reducible refine below_drewN ?_ _ | with_reducible refine Below.trans ?_ (Below.mono (by with_reducible assumption) ?_) | omega | (simp <;> omega)))⟩
  | false =>
    simp only [reduceIte, Bool.false_eq_true]
    obtain ⟨R, hR⟩ : ∃ R, R = nxt n c G0 := ⟨_, rfl⟩
    have HR := hide hR
    rw [← hR]
    clear hR
    go_enter Try.func44, Try.ntmps44
    go_wp2_with fail
    refine (code_next n c G0 _ h0 h1).mono ?_
    rintro e w1 ⟨rfl, hb1⟩
    rw [← HR.out]
    obtain ⟨hcc1, hff1⟩ := bcell hb1; have hs1 := hb1.size; (try simp at hs1); have hz1 : w.heap.size < w1.heap.size := (by omega)
    have hz2 : w.heap.size + 1 < w1.heap.size := by omega
    have hz3 : w.heap.size + 1 + 1 < w1.heap.size := by omega
    have k0 : w1.cell? ⟨w.heap.size, 0, none⟩ = some (.iface 72 (.agg #[.int .i64 0, .int .i64 0, .int .i64 n, .bool (c).b, .bool (c).s, .bool (c).d, .int .i64 (c).t, .int .i64 (c).a])) := by go_simp
    have k1 : w1.cell? ⟨w.heap.size, 1, none⟩ = some (.int .i64 0) := by go_simp
    have k2 : w1.cell? ⟨w.heap.size, 2, none⟩ = some (.bool true) := by go_simp
    have a0 : w1.cell? ⟨w.heap.size + 1 + 1, 0, none⟩ = some (.int .i64 0) := by go_simp
    have a1 : w1.cell? ⟨w.heap.size + 1 + 1, 1, none⟩ = some (.int .i64 0) := by go_simp
    have a2 : w1.cell? ⟨w.heap.size + 1 + 1, 2, none⟩ = some (.int .i64 0) := by go_simp
    have a3 : w1.cell? ⟨w.heap.size + 1 + 1, 3, none⟩ = some (.int .u32 0) := by go_simp
    have a4 : w1.cell? ⟨w.heap.size + 1 + 1, 4, none⟩ = some (.int .u32 0) := by go_simp
    have a5 : w1.cell? ⟨w.heap.size + 1 + 1, 5, none⟩ = some (.int .i64 0) := by go_simp
    have a6 : w1.cell? ⟨w.heap.size + 1 + 1, 6, none⟩ = some (.int .u32 0) := by go_simp
    have a7 : w1.cell? ⟨w.heap.size + 1 + 1, 7, none⟩ = some (.int .u32 0) := by go_simp
    have q0 : w1.frozen? ⟨w.heap.size, 0, none⟩ = false := by rw [hff1 _ _ (by simp <;> omega)]; go_simp
    have p0 : ∀ o, w1.frozen? ⟨w.heap.size + 1 + 1, o, none⟩ = false := fun o => by rw [hff1 _ _ (by simp)]; exact World.frozen?_alloc_at _ _ _ _ (by simp)
    have hB1 : Below w.heap.size w w1 := (by repeat' (first | with_reducible exact Below.refl _ _ | with_reducible assumption | with_reducible refine Below.alloc ?_ ?_ _ | with_reducible refine Below.setCell ?_ ?_ _ | with_reducible refine Below.drew ?_ | with_reducible refine below_drewN ?_ _ | with_reducible refine Below.trans ?_ (Below.mono (by with_reducible assumption) ?_) | omega | (simp <;> omega)))
    clear hcc1 hff1 hb1
    go_wp2_with fail
    go_region
    all_goals go_wp2
    all_goals exact bodyPost_ret (v := .tuple #[.iface 66 (.agg #[.iface 72 (.agg #[.int .i64 0, .int .i64 0, .int .i64 n, .bool (R.1).b, .bool (R.1).s, .bool (R.1).d, .int .i64 (R.1).t, .int .i64 (R.1).a]), .int .i64 0, .bool true]), (.agg #[.int .i64 (R.2.1).o, .int .i64 (R.2.1).l, .int .i64 (R.2.1).v, .int .u32 (R.2.1).r, .int .u32 (R.2.1).f, .int .i64 (R.2.1).v2, .int .u32 (R.2.1).r2, .int .u32 (R.2.1).f2]), .bool R.2.2]) (by simp [results, Try.results44, go_sem, a0, a1, a2, a3, a4, a5, a6, a7, hz3]) rfl ⟨rfl, (by repeat' (first | with_reducible exact Below.refl _ _ | with_reducible assumption | with_reducible refine Below.alloc ?_ ?_ _ | with_reducible refine Below.setCell ?_ ?_ _ | with_reducible refine Below.drew ?_ | with_reducible refine below_drewN ?_ _ | with_reducible refine Below.trans ?_ (Below.mono (by with_reducible assumption) ?_) | omega | (simp <;> omega)))⟩
end Go.Proofs.Ytfldjbojonbmpaa
