/- The code's Next as a function; package advise: wrapped. -/
import Derived.Laws.Append
import Derived.Laws.AppendOwn
import Derived.Deep.RegionHeld3
import Derived.Deep.RegionLaw
import Derived.Deep.DeepCutAuto
import Derived.Test.YtmjkopejbdipcaaG00
import Derived.Test.YtmjkopejbdipcaaG01
namespace Go.Proofs.Ytmjkopejbdipcaa
set_option linter.unusedSimpArgs false
set_option linter.unusedVariables false
open Go.RowKit

structure CS where
  b : Bool
  s : Bool
  d : Bool
  t : Int
  a : Int
structure GS where
  v : Int
  r : Int
  f : Int
  k : Bool
structure AS where
  o : Int
  l : Int
  v : Int
  r : Int
  f : Int
  v2 : Int
  r2 : Int
  f2 : Int
def A0 : AS := ⟨0, 0, 0, 0, 0, 0, 0, 0⟩
def G0 : GS := ⟨0, 0, 0, false⟩
/-- One step of the code: the new state, the act, whether it is done. -/
def nxt (n : Int) (c : CS) (g : GS) : CS × AS × Bool :=
  if c.d then (c, A0, true)
  else if !c.b then (⟨true, c.s, false, c.t, c.a⟩, ⟨5, 0, 0, 0, 0, 0, 0, 0⟩, false)
  else if c.s && g.k then (⟨true, true, true, c.t + 1, g.v⟩, A0, true)
  else if wrap64 (g.v + n) = g.v then (⟨true, c.s, true, if c.s then c.t + 1 else c.t, g.v⟩, A0, true)
  else (⟨true, true, false, if c.s then c.t + 1 else c.t, c.a⟩, ⟨6, 0, g.v, g.r, g.f, wrap64 (g.v + n), g.r, g.f⟩, false)
theorem nxt_t (n : Int) (c : CS) (g : GS) (m : Int) (h0 : 0 ≤ c.t) (h1 : c.t ≤ m) : 0 ≤ (nxt n c g).1.t ∧ (nxt n c g).1.t ≤ m + 1 := by
  unfold nxt
  repeat' split
  all_goals (simp only []; omega)

theorem code_next (n : Int) (c : CS) (g : GS) (w : World) (h0 : 0 ≤ c.t) (h1 : c.t ≤ 1000000) :
    Calls Try.prog 109 #[(.agg #[.int .i64 0, .int .i64 0, .int .i64 n, .bool (c).b, .bool (c).s, .bool (c).d, .int .i64 (c).t, .int .i64 (c).a]), (.agg #[.int .i64 (g).v, .int .u32 (g).r, .int .u32 (g).f, .bool (g).k])] w fun e w' => e = .returned (.tuple #[.iface 104 (.agg #[.int .i64 0, .int .i64 0, .int .i64 n, .bool ((nxt n c g).1).b, .bool ((nxt n c g).1).s, .bool ((nxt n c g).1).d, .int .i64 ((nxt n c g).1).t, .int .i64 ((nxt n c g).1).a]), (.agg #[.int .i64 ((nxt n c g).2.1).o, .int .i64 ((nxt n c g).2.1).l, .int .i64 ((nxt n c g).2.1).v, .int .u32 ((nxt n c g).2.1).r, .int .u32 ((nxt n c g).2.1).f, .int .i64 ((nxt n c g).2.1).v2, .int .u32 ((nxt n c g).2.1).r2, .int .u32 ((nxt n c g).2.1).f2]), .bool (nxt n c g).2.2]) ∧ Below w.heap.size w w' := by
  obtain ⟨b, s, d, t, a⟩ := c
  obtain ⟨v, r, f, k⟩ := g
  cases d with
  | true => exact next_done n t a v r f b s k w
  | false =>
    cases b with
    | false => exact next_first n t a v r f s k w
    | true =>
      cases s with
      | false =>
        by_cases hm : wrap64 (v + n) = v
        · have h := next_one_same n t a v r f k w h0 h1 hm
          simpa [nxt, hm, A0] using h
        · have h := next_one_swap n t a v r f k w h0 h1 hm
          simpa [nxt, hm, A0] using h
      | true =>
        cases k with
        | true => exact next_ok n t a v r f w h0 h1
        | false =>
          by_cases hm : wrap64 (v + n) = v
          · have h := next_two_same n t a v r f w h0 h1 hm
            simpa [nxt, hm, A0] using h
          · have h := next_two_swap n t a v r f w h0 h1 hm
            simpa [nxt, hm, A0] using h

theorem code_nil (v : Value) (w : World) : (nilAhead 306 104 v "Next").run Try.prog w = .ok (some false) w := by kernel_rfl
theorem code_meth (v : Value) (w : World) : (method 306 104 v "Next").run Try.prog w = .ok (109, v) w := by kernel_rfl
theorem code_enter (args : Array Value) (w : World) : (callFunc 109 args).run Try.prog w = .ok (.enter 109 args) w := by rfl
theorem wr_nil (v : Value) (w : World) : (nilAhead 306 95 v "Next").run Try.prog w = .ok (some false) w := by kernel_rfl
theorem wr_meth (v : Value) (w : World) : (method 306 95 v "Next").run Try.prog w = .ok (108, v) w := by kernel_rfl
theorem wr_enter (args : Array Value) (w : World) : (callFunc 108 args).run Try.prog w = .ok (.enter 108 args) w := by rfl

theorem wn_left (T : TypeId) (p : Value) (l : Int) (b : Bool) (g : GS) (w : World) (h0 : 0 < l) (h1 : l ≤ 64) :
    Calls Try.prog 108 #[.agg #[.iface T p, .int .i64 l, .bool b], (.agg #[.int .i64 (g).v, .int .u32 (g).r, .int .u32 (g).f, .bool (g).k])] w fun e w' => e = .returned (.tuple #[.iface 95 (.agg #[.iface T p, .int .i64 (l - 1), .bool b]), (.agg #[.int .i64 (A0).o, .int .i64 (A0).l, .int .i64 (A0).v, .int .u32 (A0).r, .int .u32 (A0).f, .int .i64 (A0).v2, .int .u32 (A0).r2, .int .u32 (A0).f2]), .bool false]) ∧ Below w.heap.size w w' := by
  go_enter Try.func108, Try.ntmps108
  go_wp2
  exact bodyPost_ret (v := .tuple #[.iface 95 (.agg #[.iface T p, .int .i64 (l - 1), .bool b]), (.agg #[.int .i64 (A0).o, .int .i64 (A0).l, .int .i64 (A0).v, .int .u32 (A0).r, .int .u32 (A0).f, .int .i64 (A0).v2, .int .u32 (A0).r2, .int .u32 (A0).f2]), .bool false]) (by simp [results, Try.results108, go_sem, A0]) rfl ⟨rfl, (by repeat' (first | with_reducible exact Below.refl _ _ | with_reducible assumption | with_reducible refine Below.alloc ?_ ?_ _ | with_reducible refine Below.setCell ?_ ?_ _ | with_reducible refine Below.drew ?_ | with_reducible refine below_drewN ?_ _ | with_reducible refine Below.trans ?_ (Below.mono (by with_reducible assumption) ?_) | omega | (simp <;> omega)))⟩

theorem wn_inner (n : Int) (c : CS) (b : Bool) (g : GS) (w : World) (h0 : 0 ≤ c.t) (h1 : c.t ≤ 1000000) :
    Calls Try.prog 108 #[.agg #[.iface 104 (.agg #[.int .i64 0, .int .i64 0, .int .i64 n, .bool (c).b, .bool (c).s, .bool (c).d, .int .i64 (c).t, .int .i64 (c).a]), .int .i64 0, .bool b], (.agg #[.int .i64 (g).v, .int .u32 (g).r, .int .u32 (g).f, .bool (g).k])] w fun e w' => e = .returned (.tuple #[.iface 95 (.agg #[.iface 104 (.agg #[.int .i64 0, .int .i64 0, .int .i64 n, .bool ((nxt n c (if b then g else G0)).1).b, .bool ((nxt n c (if b then g else G0)).1).s, .bool ((nxt n c (if b then g else G0)).1).d, .int .i64 ((nxt n c (if b then g else G0)).1).t, .int .i64 ((nxt n c (if b then g else G0)).1).a]), .int .i64 0, .bool true]), (.agg #[.int .i64 ((nxt n c (if b then g else G0)).2.1).o, .int .i64 ((nxt n c (if b then g else G0)).2.1).l, .int .i64 ((nxt n c (if b then g else G0)).2.1).v, .int .u32 ((nxt n c (if b then g else G0)).2.1).r, .int .u32 ((nxt n c (if b then g else G0)).2.1).f, .int .i64 ((nxt n c (if b then g else G0)).2.1).v2, .int .u32 ((nxt n c (if b then g else G0)).2.1).r2, .int .u32 ((nxt n c (if b then g else G0)).2.1).f2]), .bool (nxt n c (if b then g else G0)).2.2]) ∧ Below w.heap.size w w' := by
  have hn := code_nil
  have hm := code_meth
  have he := code_enter
  cases b with
  | true =>
    simp only [reduceIte]
    obtain ⟨R, hR⟩ : ∃ R, R = nxt n c g := ⟨_, rfl⟩
    have HR := hide hR
    rw [← hR]
    clear hR
    go_enter Try.func108, Try.ntmps108
    go_wp2_with fail
    refine (code_next n c g _ h0 h1).mono ?_
    rintro e w1 ⟨rfl, hb1⟩
    rw [← HR.out]
    obtain ⟨hcc1, hff1⟩ := bcell hb1; have hs1 := hb1.size; (try simp at hs1); have hz1 : w.heap.size < w1.heap.size := (by omega)
    have hz2 : w.heap.size + 1 < w1.heap.size := by omega
    have hz3 : w.heap.size + 1 + 1 < w1.heap.size := by omega
    have k0 : w1.cell? ⟨w.heap.size, 0, none⟩ = some (.iface 104 (.agg #[.int .i64 0, .int .i64 0, .int .i64 n, .bool (c).b, .bool (c).s, .bool (c).d, .int .i64 (c).t, .int .i64 (c).a])) := by go_simp
    have k1 : w1.cell? ⟨w.heap.size, 1, none⟩ = some (.int .i64 0) := by go_simp
    have k2 : w1.cell? ⟨w.heap.size, 2, none⟩ = some (.bool true) := by go_simp
    have a0 : w1.cell? ⟨w.heap.size + 1 + 1, 0, none⟩ = some (.int .i64 0) := by go_simp
    have a1 : w1.cell? ⟨w.heap.size + 1 + 1, 1, none⟩ = some (.int .i64 0) := by go_simp
    have a2 : w1.cell? ⟨w.heap.size + 1 + 1, 2, none⟩ = some (.int .i64 0) := by go_simp
    have a3 : w1.cell? ⟨w.heap.size + 1 + 1, 3, none⟩ = some (.int .u32 0) := by go_simp
    have a4 : w1.cell? ⟨w.heap.size + 1 + 1, 4, none⟩ = some (.int .u32 0) := by go_simp
    have a5 : w1.cell? ⟨w.heap.size + 1 + 1, 5, none⟩ = some (.int .i64 0) := by go_simp
    have a6 : w1.cell? ⟨w.heap.size + 1 + 1, 6, none⟩ = some (.int .u32 0) := by go_simp
    have a7 : w1.cell? ⟨w.heap.size + 1 + 1, 7, none⟩ = some (.int .u32 0) := by go_simp
    have q0 : w1.frozen? ⟨w.heap.size, 0, none⟩ = false := by rw [hff1 _ _ (by simp <;> omega)]; go_simp
    have p0 : ∀ o, w1.frozen? ⟨w.heap.size + 1 + 1, o, none⟩ = false := fun o => by rw [hff1 _ _ (by simp)]; exact World.frozen?_alloc_at _ _ _ _ (by simp)
    have hB1 : Below w.heap.size w w1 := (by repeat' (first | with_reducible exact Below.refl _ _ | with_reducible assumption | with_reducible refine Below.alloc ?_ ?_ _ | with_reducible refine Below.setCell ?_ ?_ _ | with_reducible refine Below.drew ?_ | with_reducible refine below_drewN ?_ _ | with_reducible refine Below.trans ?_ (Below.mono (by with_reducible assumption) ?_) | omega | (simp <;> omega)))
    clear hcc1 hff1 hb1
    go_wp2_with fail
    go_region
    all_goals go_wp2
    all_goals exact bodyPost_ret (v := .tuple #[.iface 95 (.agg #[.iface 104 (.agg #[.int .i64 0, .int .i64 0, .int .i64 n, .bool (R.1).b, .bool (R.1).s, .bool (R.1).d, .int .i64 (R.1).t, .int .i64 (R.1).a]), .int .i64 0, .bool true]), (.agg #[.int .i64 (R.2.1).o, .int .i64 (R.2.1).l, .int .i64 (R.2.1).v, .int .u32 (R.2.1).r, .int .u32 (R.2.1).f, .int .i64 (R.2.1).v2, .int .u32 (R.2.1).r2, .int .u32 (R.2.1).f2]), .bool R.2.2]) (by simp [results, Try.results108, go_sem, a0, a1, a2, a3, a4, a5, a6, a7, hz3]) rfl ⟨rfl, (by repeat' (first | with_reducible exact Below.refl _ _ | with_reducible assumption | with_reducible refine Below.alloc ?_ ?_ _ | with_reducible refine Below.setCell ?_ ?_ _ | with_reducible refine Below.drew ?_ | with_reducible refine below_drewN ?_ _ | with_reducible refine Below.trans ?_ (Below.mono (by with_reducible assumption) ?_) | omega | (simp <;> omega)))⟩
  | false =>
    simp only [reduceIte, Bool.false_eq_true]
    obtain ⟨R, hR⟩ : ∃ R, R = nxt n c G0 := ⟨_, rfl⟩
    have HR := hide hR
    rw [← hR]
    clear hR
    go_enter Try.func108, Try.ntmps108
    go_wp2_with fail
    refine (code_next n c G0 _ h0 h1).mono ?_
    rintro e w1 ⟨rfl, hb1⟩
    rw [← HR.out]
    obtain ⟨hcc1, hff1⟩ := bcell hb1; have hs1 := hb1.size; (try simp at hs1); have hz1 : w.heap.size < w1.heap.size := (by omega)
    have hz2 : w.heap.size + 1 < w1.heap.size := by omega
    have hz3 : w.heap.size + 1 + 1 < w1.heap.size := by omega
    have k0 : w1.cell? ⟨w.heap.size, 0, none⟩ = some (.iface 104 (.agg #[.int .i64 0, .int .i64 0, .int .i64 n, .bool (c).b, .bool (c).s, .bool (c).d, .int .i64 (c).t, .int .i64 (c).a])) := by go_simp
    have k1 : w1.cell? ⟨w.heap.size, 1, none⟩ = some (.int .i64 0) := by go_simp
    have k2 : w1.cell? ⟨w.heap.size, 2, none⟩ = some (.bool true) := by go_simp
    have a0 : w1.cell? ⟨w.heap.size + 1 + 1, 0, none⟩ = some (.int .i64 0) := by go_simp
    have a1 : w1.cell? ⟨w.heap.size + 1 + 1, 1, none⟩ = some (.int .i64 0) := by go_simp
    have a2 : w1.cell? ⟨w.heap.size + 1 + 1, 2, none⟩ = some (.int .i64 0) := by go_simp
    have a3 : w1.cell? ⟨w.heap.size + 1 + 1, 3, none⟩ = some (.int .u32 0) := by go_simp
    have a4 : w1.cell? ⟨w.heap.size + 1 + 1, 4, none⟩ = some (.int .u32 0) := by go_simp
    have a5 : w1.cell? ⟨w.heap.size + 1 + 1, 5, none⟩ = some (.int .i64 0) := by go_simp
    have a6 : w1.cell? ⟨w.heap.size + 1 + 1, 6, none⟩ = some (.int .u32 0) := by go_simp
    have a7 : w1.cell? ⟨w.heap.size + 1 + 1, 7, none⟩ = some (.int .u32 0) := by go_simp
    have q0 : w1.frozen? ⟨w.heap.size, 0, none⟩ = false := by rw [hff1 _ _ (by simp <;> omega)]; go_simp
    have p0 : ∀ o, w1.frozen? ⟨w.heap.size + 1 + 1, o, none⟩ = false := fun o => by rw [hff1 _ _ (by simp)]; exact World.frozen?_alloc_at _ _ _ _ (by simp)
    have hB1 : Below w.heap.size w w1 := (by repeat' (first | with_reducible exact Below.refl _ _ | with_reducible assumption | with_reducible refine Below.alloc ?_ ?_ _ | with_reducible refine Below.setCell ?_ ?_ _ | with_reducible refine Below.drew ?_ | with_reducible refine below_drewN ?_ _ | with_reducible refine Below.trans ?_ (Below.mono (by with_reducible assumption) ?_) | omega | (simp <;> omega)))
    clear hcc1 hff1 hb1
    go_wp2_with fail
    go_region
    all_goals go_wp2
    all_goals exact bodyPost_ret (v := .tuple #[.iface 95 (.agg #[.iface 104 (.agg #[.int .i64 0, .int .i64 0, .int .i64 n, .bool (R.1).b, .bool (R.1).s, .bool (R.1).d, .int .i64 (R.1).t, .int .i64 (R.1).a]), .int .i64 0, .bool true]), (.agg #[.int .i64 (R.2.1).o, .int .i64 (R.2.1).l, .int .i64 (R.2.1).v, .int .u32 (R.2.1).r, .int .u32 (R.2.1).f, .int .i64 (R.2.1).v2, .int .u32 (R.2.1).r2, .int .u32 (R.2.1).f2]), .bool R.2.2]) (by simp [results, Try.results108, go_sem, a0, a1, a2, a3, a4, a5, a6, a7, hz3]) rfl ⟨rfl, (by repeat' (first | with_reducible exact Below.refl _ _ | with_reducible assumption | with_reducible refine Below.alloc ?_ ?_ _ | with_reducible refine Below.setCell ?_ ?_ _ | with_reducible refine Below.drew ?_ | with_reducible refine below_drewN ?_ _ | with_reducible refine Below.trans ?_ (Below.mono (by with_reducible assumption) ?_) | omega | (simp <;> omega)))⟩
end Go.Proofs.Ytmjkopejbdipcaa
namespace Go.Proofs.Ytmjkopejbdipcaa
set_option linter.unusedSimpArgs false
set_option linter.unusedVariables false
open Go.RowKit

/-- What is known of a code's type: it is no nil. -/
def CodeT (T : TypeId) : Prop := (∀ p w, (binOp .eql 47 (.iface T p) .nilIface).run Try.prog w = .ok (.bool false) w) ∧ (∀ p w, (nilAhead 306 T p "Next").run Try.prog w = .ok (some false) w) ∧ (∀ p w, (binOp .neq 47 (.iface T p) .nilIface).run Try.prog w = .ok (.bool true) w)
theorem codeT_code : CodeT 104 := ⟨fun p w => by kernel_rfl, fun p w => by kernel_rfl, fun p w => by kernel_rfl⟩
theorem codeT_wr : CodeT 95 := ⟨fun p w => by kernel_rfl, fun p w => by kernel_rfl, fun p w => by kernel_rfl⟩
theorem nil_eq (w : World) : (binOp .eql 47 .nilIface .nilIface).run Try.prog w = .ok (.bool true) w := by kernel_rfl
theorem nil_ne (w : World) : (binOp .neq 47 .nilIface .nilIface).run Try.prog w = .ok (.bool false) w := by kernel_rfl

theorem told_go (T : TypeId) (p c0 nx0 : Value) (a0 a : AS) (A : Option Addr) (m cp : Nat) (w : World) (hT : CodeT T) :
    Calls Try.prog 38 #[(.agg #[c0, nx0, .int .i64 (a0).o, .int .i64 (a0).l, .int .i64 (a0).v, .int .u32 (a0).r, .int .u32 (a0).f, .int .i64 (a0).v2, .int .u32 (a0).r2, .int .u32 (a0).f2, .slice A m cp]), .iface T p, (.agg #[.int .i64 (a).o, .int .i64 (a).l, .int .i64 (a).v, .int .u32 (a).r, .int .u32 (a).f, .int .i64 (a).v2, .int .u32 (a).r2, .int .u32 (a).f2]), .bool false] w fun e w' => e = .returned (.agg #[.iface T p, (.func (Fn.method "Next") #[.iface T p] #[]), .int .i64 (a).o, .int .i64 (a).l, .int .i64 (a).v, .int .u32 (a).r, .int .u32 (a).f, .int .i64 (a).v2, .int .u32 (a).r2, .int .u32 (a).f2, .slice A m cp]) ∧ Below w.heap.size w w' := by
  obtain ⟨h1, h2, _⟩ := hT
  go_enter Try.func38, Try.ntmps38
  go_wp2_with fail
  go_region
  all_goals go_wp2
  all_goals exact bodyPost_ret (v := (.agg #[.iface T p, (.func (Fn.method "Next") #[.iface T p] #[]), .int .i64 (a).o, .int .i64 (a).l, .int .i64 (a).v, .int .u32 (a).r, .int .u32 (a).f, .int .i64 (a).v2, .int .u32 (a).r2, .int .u32 (a).f2, .slice A m cp])) (by simp [results, Try.results38, go_sem]) rfl ⟨rfl, (by repeat' (first | with_reducible exact Below.refl _ _ | with_reducible assumption | with_reducible refine Below.alloc ?_ ?_ _ | with_reducible refine Below.setCell ?_ ?_ _ | with_reducible refine Below.drew ?_ | with_reducible refine below_drewN ?_ _ | with_reducible refine Below.trans ?_ (Below.mono (by with_reducible assumption) ?_) | omega | (simp <;> omega)))⟩

theorem told_done (T : TypeId) (p c0 nx0 : Value) (a0 a : AS) (A : Option Addr) (m cp : Nat) (w : World) (hT : CodeT T) :
    Calls Try.prog 38 #[(.agg #[c0, nx0, .int .i64 (a0).o, .int .i64 (a0).l, .int .i64 (a0).v, .int .u32 (a0).r, .int .u32 (a0).f, .int .i64 (a0).v2, .int .u32 (a0).r2, .int .u32 (a0).f2, .slice A m cp]), .iface T p, (.agg #[.int .i64 (a).o, .int .i64 (a).l, .int .i64 (a).v, .int .u32 (a).r, .int .u32 (a).f, .int .i64 (a).v2, .int .u32 (a).r2, .int .u32 (a).f2]), .bool true] w fun e w' => e = .returned (.agg #[.iface T p, .nilFunc, .int .i64 (A0).o, .int .i64 (A0).l, .int .i64 (A0).v, .int .u32 (A0).r, .int .u32 (A0).f, .int .i64 (A0).v2, .int .u32 (A0).r2, .int .u32 (A0).f2, .slice A m cp]) ∧ Below w.heap.size w w' := by
  obtain ⟨h1, h2, _⟩ := hT
  go_enter Try.func38, Try.ntmps38
  go_wp2_with fail
  go_region
  all_goals go_wp2
  all_goals exact bodyPost_ret (v := (.agg #[.iface T p, .nilFunc, .int .i64 (A0).o, .int .i64 (A0).l, .int .i64 (A0).v, .int .u32 (A0).r, .int .u32 (A0).f, .int .i64 (A0).v2, .int .u32 (A0).r2, .int .u32 (A0).f2, .slice A m cp])) (by simp [results, Try.results38, go_sem, A0]) rfl ⟨rfl, (by repeat' (first | with_reducible exact Below.refl _ _ | with_reducible assumption | with_reducible refine Below.alloc ?_ ?_ _ | with_reducible refine Below.setCell ?_ ?_ _ | with_reducible refine Below.drew ?_ | with_reducible refine below_drewN ?_ _ | with_reducible refine Below.trans ?_ (Below.mono (by with_reducible assumption) ?_) | omega | (simp <;> omega)))⟩

theorem fn_eq (T : TypeId) (p : Value) (w : World) : (binOp .eql 67 (.func (Fn.method "Next") #[.iface T p] #[]) .nilFunc).run Try.prog w = .ok (.bool false) w := by kernel_rfl
theorem nilfn_eq (w : World) : (binOp .eql 67 .nilFunc .nilFunc).run Try.prog w = .ok (.bool true) w := by kernel_rfl
theorem done_no (T : TypeId) (p c0 : Value) (a0 : AS) (A : Option Addr) (m cp : Nat) (w : World) :
    Calls Try.prog 42 #[(.agg #[c0, (.func (Fn.method "Next") #[.iface T p] #[]), .int .i64 (a0).o, .int .i64 (a0).l, .int .i64 (a0).v, .int .u32 (a0).r, .int .u32 (a0).f, .int .i64 (a0).v2, .int .u32 (a0).r2, .int .u32 (a0).f2, .slice A m cp])] w fun e w' => e = .returned (.bool false) ∧ Below w.heap.size w w' := by
  have hf1 := fn_eq
  have hf2 := nilfn_eq
  go_enter Try.func42, Try.ntmps42
  go_wp2
  go_ret
  exact ⟨rfl, (by repeat' (first | with_reducible exact Below.refl _ _ | with_reducible assumption | with_reducible refine Below.alloc ?_ ?_ _ | with_reducible refine Below.setCell ?_ ?_ _ | with_reducible refine Below.drew ?_ | with_reducible refine below_drewN ?_ _ | with_reducible refine Below.trans ?_ (Below.mono (by with_reducible assumption) ?_) | omega | (simp <;> omega)))⟩
theorem done_yes (c0 : Value) (a0 : AS) (A : Option Addr) (m cp : Nat) (w : World) :
    Calls Try.prog 42 #[(.agg #[c0, .nilFunc, .int .i64 (a0).o, .int .i64 (a0).l, .int .i64 (a0).v, .int .u32 (a0).r, .int .u32 (a0).f, .int .i64 (a0).v2, .int .u32 (a0).r2, .int .u32 (a0).f2, .slice A m cp])] w fun e w' => e = .returned (.bool true) ∧ Below w.heap.size w w' := by
  have hf1 := fn_eq
  have hf2 := nilfn_eq
  go_enter Try.func42, Try.ntmps42
  go_wp2
  go_ret
  exact ⟨rfl, (by repeat' (first | with_reducible exact Below.refl _ _ | with_reducible assumption | with_reducible refine Below.alloc ?_ ?_ _ | with_reducible refine Below.setCell ?_ ?_ _ | with_reducible refine Below.drew ?_ | with_reducible refine below_drewN ?_ _ | with_reducible refine Below.trans ?_ (Below.mono (by with_reducible assumption) ?_) | omega | (simp <;> omega)))⟩
theorem tcode_any (T : TypeId) (p nx0 : Value) (a0 : AS) (A : Option Addr) (m cp : Nat) (w : World) :
    Calls Try.prog 12 #[(.agg #[.iface T p, nx0, .int .i64 (a0).o, .int .i64 (a0).l, .int .i64 (a0).v, .int .u32 (a0).r, .int .u32 (a0).f, .int .i64 (a0).v2, .int .u32 (a0).r2, .int .u32 (a0).f2, .slice A m cp])] w fun e w' => e = .returned (.iface T p) ∧ Below w.heap.size w w' := by
  go_enter Try.func12, Try.ntmps12
  go_wp2
  go_ret
  exact ⟨rfl, (by repeat' (first | with_reducible exact Below.refl _ _ | with_reducible assumption | with_reducible refine Below.alloc ?_ ?_ _ | with_reducible refine Below.setCell ?_ ?_ _ | with_reducible refine Below.drew ?_ | with_reducible refine below_drewN ?_ _ | with_reducible refine Below.trans ?_ (Below.mono (by with_reducible assumption) ?_) | omega | (simp <;> omega)))⟩

theorem wrap_nil (r : Int) (w : World) :
    Calls Try.prog 7 #[.nilIface, .int .i64 r] w fun e w' => e = .returned .nilIface ∧ w = w' := by
  have h := nil_eq
  go_enter Try.func7, Try.ntmps7
  go_wp2
  go_ret
  exact ⟨rfl, rfl⟩
/-- How often a wrapped code rests. -/
def many (r : Int) : Int := max 0 (min r 64)
theorem wrap_any (T : TypeId) (p : Value) (r : Int) (w : World) (hT : CodeT T) :
    Calls Try.prog 7 #[.iface T p, .int .i64 r] w fun e w' => e = .returned (.iface 95 (.agg #[.iface T p, .int .i64 (many r), .bool false])) ∧ w = w' := by
  obtain ⟨h1, h2, _⟩ := hT
  by_cases h64 : 64 < r
  · have hm : Hid (many r = 64) := hide (by unfold many; omega)
    rw [hm.out]
    go_enter Try.func7, Try.ntmps7
    go_wp2
    go_ret
    exact ⟨rfl, rfl⟩
  · by_cases h0 : 0 < r
    · have hm : Hid (many r = r) := hide (by unfold many; omega)
      rw [hm.out]
      go_enter Try.func7, Try.ntmps7
      go_wp2
      go_ret
      exact ⟨rfl, rfl⟩
    · have hm : Hid (many r = 0) := hide (by unfold many; omega)
      rw [hm.out]
      go_enter Try.func7, Try.ntmps7
      go_wp2
      go_ret
      exact ⟨rfl, rfl⟩

theorem inner_nil (w : World) :
    Calls Try.prog 13 #[.nilIface] w fun e w' => e = .returned .nilIface ∧ Below w.heap.size w w' := by
  have h := ta_wr_nil
  go_enter Try.func13, Try.ntmps13
  go_wp2_with fail
  refine wp_loop_rounds 1 ?_
  rw [rounds_succ]
  go_wp2
  go_ret
  exact ⟨rfl, (by repeat' (first | with_reducible exact Below.refl _ _ | with_reducible assumption | with_reducible refine Below.alloc ?_ ?_ _ | with_reducible refine Below.setCell ?_ ?_ _ | with_reducible refine Below.drew ?_ | with_reducible refine below_drewN ?_ _ | with_reducible refine Below.trans ?_ (Below.mono (by with_reducible assumption) ?_) | omega | (simp <;> omega)))⟩
theorem inner_any (q : Value) (l : Int) (b : Bool) (w : World) :
    Calls Try.prog 13 #[.iface 95 (.agg #[.iface 104 q, .int .i64 l, .bool b])] w fun e w' => e = .returned (.iface 104 q) ∧ Below w.heap.size w w' := by
  have h := ta_wr
  have h2 := ta_wr_no
  go_enter Try.func13, Try.ntmps13
  go_wp2_with fail
  refine wp_loop_rounds 2 ?_
  rw [rounds_succ]
  go_wp2_with fail
  rw [rounds_succ]
  go_wp2
  go_ret
  exact ⟨rfl, (by repeat' (first | with_reducible exact Below.refl _ _ | with_reducible assumption | with_reducible refine Below.alloc ?_ ?_ _ | with_reducible refine Below.setCell ?_ ?_ _ | with_reducible refine Below.drew ?_ | with_reducible refine below_drewN ?_ _ | with_reducible refine Below.trans ?_ (Below.mono (by with_reducible assumption) ?_) | omega | (simp <;> omega)))⟩
theorem clip_any (A : Option Addr) (m cp : Nat) (w : World) (h : m ≤ cp) :
    Calls Try.prog 60 #[.slice A m cp] w fun e w' => e = .returned (.slice A m m) ∧ w = w' := by
  go_enter Try.func60, Try.ntmps60
  go_wp2
  all_goals go_ret
  all_goals exact ⟨rfl, rfl⟩

theorem act_no (T : TypeId) (p c0 : Value) (a : AS) (A : Option Addr) (m cp : Nat) (w : World) :
    Calls Try.prog 43 #[(.agg #[c0, (.func (Fn.method "Next") #[.iface T p] #[]), .int .i64 (a).o, .int .i64 (a).l, .int .i64 (a).v, .int .u32 (a).r, .int .u32 (a).f, .int .i64 (a).v2, .int .u32 (a).r2, .int .u32 (a).f2, .slice A m cp])] w fun e w' => e = .returned (.tuple #[(.agg #[.int .i64 (a).o, .int .i64 (a).l, .int .i64 (a).v, .int .u32 (a).r, .int .u32 (a).f, .int .i64 (a).v2, .int .u32 (a).r2, .int .u32 (a).f2]), .bool true]) ∧ Below w.heap.size w w' := by
  go_enter Try.func43, Try.ntmps43
  go_wp2_with fail
  go_region_held3 (fun w' => w'.cell? ⟨w.heap.size, 0, none⟩ = some (c0) ∧ w'.cell? ⟨w.heap.size, 1, none⟩ = some ((.func (Fn.method "Next") #[.iface T p] #[])) ∧ w'.cell? ⟨w.heap.size, 2, none⟩ = some (.int .i64 a.o) ∧ w'.cell? ⟨w.heap.size, 3, none⟩ = some (.int .i64 a.l) ∧ w'.cell? ⟨w.heap.size, 4, none⟩ = some (.int .i64 a.v) ∧ w'.cell? ⟨w.heap.size, 5, none⟩ = some (.int .u32 a.r) ∧ w'.cell? ⟨w.heap.size, 6, none⟩ = some (.int .u32 a.f) ∧ w'.cell? ⟨w.heap.size, 7, none⟩ = some (.int .i64 a.v2) ∧ w'.cell? ⟨w.heap.size, 8, none⟩ = some (.int .u32 a.r2) ∧ w'.cell? ⟨w.heap.size, 9, none⟩ = some (.int .u32 a.f2) ∧ w'.cell? ⟨w.heap.size, 10, none⟩ = some (.slice A m cp))
    (first | exact ⟨by go_simp, by go_simp, by go_simp, by go_simp, by go_simp, by go_simp, by go_simp, by go_simp, by go_simp, by go_simp, by go_simp⟩ | go_keep)
    (first | (go_at_call 42; refine (done_no T p c0 a A m cp _).mono ?_; rintro e w1 ⟨rfl, hb1'⟩; have hb1 : Below _ _ w1 := (by first | with_reducible exact noDrew hb1' | exact hb1'); clear hb1'; obtain ⟨hcc1, hff1⟩ := bcell hb1; have hs1 := hb1.size; (try simp at hs1); have hz1 : w.heap.size < w1.heap.size := (by omega); have hz2 : w.heap.size + 1 < w1.heap.size := (by omega); have z0 : w1.cell? ⟨w.heap.size + 1, 0, none⟩ = some (.int .i64 0) := (by go_simp)))
  have z0' : w1.cell? ⟨w.heap.size + 1, 0, none⟩ = some (.int .i64 0) := by go_simp
  have z1' : w1.cell? ⟨w.heap.size + 1, 1, none⟩ = some (.int .i64 0) := by go_simp
  have z2' : w1.cell? ⟨w.heap.size + 1, 2, none⟩ = some (.int .i64 0) := by go_simp
  have z3' : w1.cell? ⟨w.heap.size + 1, 3, none⟩ = some (.int .u32 0) := by go_simp
  have z4' : w1.cell? ⟨w.heap.size + 1, 4, none⟩ = some (.int .u32 0) := by go_simp
  have z5' : w1.cell? ⟨w.heap.size + 1, 5, none⟩ = some (.int .i64 0) := by go_simp
  have z6' : w1.cell? ⟨w.heap.size + 1, 6, none⟩ = some (.int .u32 0) := by go_simp
  have z7' : w1.cell? ⟨w.heap.size + 1, 7, none⟩ = some (.int .u32 0) := by go_simp
  all_goals go_wp2
  all_goals exact bodyPost_ret (v := .tuple #[(.agg #[.int .i64 (a).o, .int .i64 (a).l, .int .i64 (a).v, .int .u32 (a).r, .int .u32 (a).f, .int .i64 (a).v2, .int .u32 (a).r2, .int .u32 (a).f2]), .bool true]) (by simp [results, Try.results43, go_sem, z0', z1', z2', z3', z4', z5', z6', z7']) rfl ⟨rfl, (by repeat' (first | with_reducible exact Below.refl _ _ | with_reducible assumption | with_reducible refine Below.alloc ?_ ?_ _ | with_reducible refine Below.setCell ?_ ?_ _ | with_reducible refine Below.drew ?_ | with_reducible refine below_drewN ?_ _ | with_reducible refine Below.trans ?_ (Below.mono (by with_reducible assumption) ?_) | omega | (simp <;> omega)))⟩

theorem act_yes (c0 : Value) (a : AS) (A : Option Addr) (m cp : Nat) (w : World) :
    Calls Try.prog 43 #[(.agg #[c0, .nilFunc, .int .i64 (a).o, .int .i64 (a).l, .int .i64 (a).v, .int .u32 (a).r, .int .u32 (a).f, .int .i64 (a).v2, .int .u32 (a).r2, .int .u32 (a).f2, .slice A m cp])] w fun e w' => e = .returned (.tuple #[(.agg #[.int .i64 (a).o, .int .i64 (a).l, .int .i64 (a).v, .int .u32 (a).r, .int .u32 (a).f, .int .i64 (a).v2, .int .u32 (a).r2, .int .u32 (a).f2]), .bool false]) ∧ Below w.heap.size w w' := by
  go_enter Try.func43, Try.ntmps43
  go_wp2_with fail
  go_region_held3 (fun w' => w'.cell? ⟨w.heap.size, 0, none⟩ = some (c0) ∧ w'.cell? ⟨w.heap.size, 1, none⟩ = some (.nilFunc) ∧ w'.cell? ⟨w.heap.size, 2, none⟩ = some (.int .i64 a.o) ∧ w'.cell? ⟨w.heap.size, 3, none⟩ = some (.int .i64 a.l) ∧ w'.cell? ⟨w.heap.size, 4, none⟩ = some (.int .i64 a.v) ∧ w'.cell? ⟨w.heap.size, 5, none⟩ = some (.int .u32 a.r) ∧ w'.cell? ⟨w.heap.size, 6, none⟩ = some (.int .u32 a.f) ∧ w'.cell? ⟨w.heap.size, 7, none⟩ = some (.int .i64 a.v2) ∧ w'.cell? ⟨w.heap.size, 8, none⟩ = some (.int .u32 a.r2) ∧ w'.cell? ⟨w.heap.size, 9, none⟩ = some (.int .u32 a.f2) ∧ w'.cell? ⟨w.heap.size, 10, none⟩ = some (.slice A m cp))
    (first | exact ⟨by go_simp, by go_simp, by go_simp, by go_simp, by go_simp, by go_simp, by go_simp, by go_simp, by go_simp, by go_simp, by go_simp⟩ | go_keep)
    (first | (go_at_call 42; refine (done_yes c0 a A m cp _).mono ?_; rintro e w1 ⟨rfl, hb1'⟩; have hb1 : Below _ _ w1 := (by first | with_reducible exact noDrew hb1' | exact hb1'); clear hb1'; obtain ⟨hcc1, hff1⟩ := bcell hb1; have hs1 := hb1.size; (try simp at hs1); have hz1 : w.heap.size < w1.heap.size := (by omega); have hz2 : w.heap.size + 1 < w1.heap.size := (by omega); have z0 : w1.cell? ⟨w.heap.size + 1, 0, none⟩ = some (.int .i64 0) := (by go_simp)))
  have z0' : w1.cell? ⟨w.heap.size + 1, 0, none⟩ = some (.int .i64 0) := by go_simp
  have z1' : w1.cell? ⟨w.heap.size + 1, 1, none⟩ = some (.int .i64 0) := by go_simp
  have z2' : w1.cell? ⟨w.heap.size + 1, 2, none⟩ = some (.int .i64 0) := by go_simp
  have z3' : w1.cell? ⟨w.heap.size + 1, 3, none⟩ = some (.int .u32 0) := by go_simp
  have z4' : w1.cell? ⟨w.heap.size + 1, 4, none⟩ = some (.int .u32 0) := by go_simp
  have z5' : w1.cell? ⟨w.heap.size + 1, 5, none⟩ = some (.int .i64 0) := by go_simp
  have z6' : w1.cell? ⟨w.heap.size + 1, 6, none⟩ = some (.int .u32 0) := by go_simp
  have z7' : w1.cell? ⟨w.heap.size + 1, 7, none⟩ = some (.int .u32 0) := by go_simp
  all_goals go_wp2
  all_goals exact bodyPost_ret (v := .tuple #[(.agg #[.int .i64 (a).o, .int .i64 (a).l, .int .i64 (a).v, .int .u32 (a).r, .int .u32 (a).f, .int .i64 (a).v2, .int .u32 (a).r2, .int .u32 (a).f2]), .bool false]) (by simp [results, Try.results43, go_sem, z0', z1', z2', z3', z4', z5', z6', z7']) rfl ⟨rfl, (by repeat' (first | with_reducible exact Below.refl _ _ | with_reducible assumption | with_reducible refine Below.alloc ?_ ?_ _ | with_reducible refine Below.setCell ?_ ?_ _ | with_reducible refine Below.drew ?_ | with_reducible refine below_drewN ?_ _ | with_reducible refine Below.trans ?_ (Below.mono (by with_reducible assumption) ?_) | omega | (simp <;> omega)))⟩
end Go.Proofs.Ytmjkopejbdipcaa
namespace Go.Proofs.Ytmjkopejbdipcaa
set_option linter.unusedSimpArgs false
set_option linter.unusedVariables false
open Go.RowKit

theorem run_append_new {P : Program} (w : World) (t ty e : TypeId) (i : TypeInfo) (z : Value) (size bytes : Nat) (ht : P.underlying t = some (.slice e)) (hi : P.info? e = some i) (hz : i.zero = some z)
    (hsize : i.size = size) (hby : i.bytes = bytes) (B : Nat) (A : Option Addr) (m : Nat) (xs : List Value) (hr : Rd w B size A m xs) (hA : A = none → m = 0)
    (a : Addr) (c : Nat) (news : List Value) (hl : news.length = size) (hnews : ∀ j u, news[j]? = some u → w.cell? (a.add j) = some u)
    (h63 : m + 1 ≤ maxLen) (hbytes : (m + 1) * bytes ≤ 140737488355328) :
    ∃ cap' w', (Builtin.append_ #[t, t] ty #[.slice A m m, .slice (some a) 1 c]).run P w = .ok (.slice (some ⟨w.heap.size, 0, none⟩) (m + 1) cap') w' ∧ m + 1 ≤ cap' ∧ Rd w' w'.heap.size size (some ⟨w.heap.size, 0, none⟩) (m + 1) (xs ++ news) ∧ Below w.heap.size w w' := by
  subst hsize hby
  have hsmall : m + 1 ≤ 9223372036854775807 := by simp only [maxLen] at h63; omega
  have hrd : ∀ (zs : Array Value), Rd (w.drew.alloc (.cells (xs.toArray ++ news.toArray ++ zs) e)) (w.drew.alloc (.cells (xs.toArray ++ news.toArray ++ zs) e)).heap.size i.size (some ⟨w.heap.size, 0, none⟩) (m + 1) (xs ++ news) := by
    intro zs
    refine ⟨by rw [List.length_append, hr.1, hl, Nat.succ_mul], fun _ => ⟨w.heap.size, 0, rfl, by simp, fun j u hu => ?_⟩⟩
    have hj := (List.getElem?_eq_some_iff.1 hu).1
    rw [Nat.zero_add]
    have hh : (w.drew.alloc (.cells (xs.toArray ++ news.toArray ++ zs) e)).heap[w.heap.size]? = some (.cells (xs.toArray ++ news.toArray ++ zs) e (0, 0)) := heap_alloc_new w.drew _
    have : (xs.toArray ++ news.toArray ++ zs)[j]? = some u := by
      rw [← Array.getElem?_toList]
      simp only [Array.toList_append]
      rw [List.getElem?_append_left (by simpa using hj)]
      exact hu
    generalize xs.toArray ++ news.toArray ++ zs = cs at hh this ⊢
    simp only [World.cell?, hh]
    exact this
  cases A with
  | none =>
    obtain rfl : m = 0 := hA rfl
    obtain rfl : xs = [] := List.eq_nil_of_length_eq_zero (by simpa using hr.1)
    have hrun := run_append_nil (P := P) w t ty e i z ht hi hz a 1 c news (by omega) hnews (by omega) (by omega) (by omega)
    refine ⟨_, _, hrun, grownCap_ge w 1 0 e, ?_, ((Below.refl _ _).drew).alloc (Nat.le_refl _) _⟩
    have h := hrd (Builtin.zeroCells z.cells (grownCap w 1 0 e - 1))
    simpa using h
  | some b =>
    have holds : ∀ j u, xs[j]? = some u → w.cell? (b.add j) = some u := by
      intro j u hu
      have hm : 0 < m := by
        rcases Nat.eq_zero_or_pos m with h0 | h0
        · subst h0
          obtain rfl : xs = [] := List.eq_nil_of_length_eq_zero (by simpa using hr.1)
          simp at hu
        · exact h0
      obtain ⟨b', off, e', _, hc⟩ := hr.2 hm
      injection e' with e'
      subst e'
      rw [Go.WideShapes.add_plain]
      exact hc j u hu
    have hrun := run_append_grow (P := P) w t ty e i z ht hi hz b m m xs hr.1 holds a 1 c news (by omega) hnews (by omega) (by omega) (growslice_fits (by omega) hbytes)
    refine ⟨_, _, hrun, grownCap_ge w (m + 1) m e, hrd _, ((Below.refl _ _).drew).alloc (Nat.le_refl _) _⟩

/-- The same as one step of a region that draws its order. -/
theorem step_append_new {P : Program} {ops : Array Oper} {o : Oper} {a : Act} {w : World} {K : Act → World → Prop} {Q : Exit → Act → World → Prop} {E : Prop} (hgd : o.guard = none) (s x : Operand) (t : TypeId)
    (ho : o.op = .call { callee := .builtin .append, args := #[s, x], argTypes := #[t, t] })
    (e : TypeId) (i : TypeInfo) (z : Value) (size bytes : Nat) (ht : P.underlying t = some (.slice e)) (hi : P.info? e = some i) (hz : i.zero = some z)
    (hsize : i.size = size) (hby : i.bytes = bytes) (B : Nat) (A : Option Addr) (m : Nat) (xs : List Value) (hs : a.eval s = .slice A m m) (hr : Rd w B size A m xs) (hA : A = none → m = 0)
    (ad : Addr) (c : Nat) (news : List Value) (hx : a.eval x = .slice (some ad) 1 c) (hl : news.length = size) (hnews : ∀ j u, news[j]? = some u → w.cell? (ad.add j) = some u)
    (h63 : m + 1 ≤ maxLen) (hbytes : (m + 1) * bytes ≤ 140737488355328)
    (h : ∀ cap' w', Hid (m + 1 ≤ cap') → Hid (Rd w' w'.heap.size size (some ⟨w.heap.size, 0, none⟩) (m + 1) (xs ++ news)) → Below w.heap.size w w' → w.heap.size < w'.heap.size → K (a.put o.dst (.slice (some ⟨w.heap.size, 0, none⟩) (m + 1) cap')) w') :
    if Region.wanted o (yielded ops a.tmps) = true then Oper.wp P o a w K Q else E := by
  have hw : Region.wanted o (yielded ops a.tmps) = true := by simp [Region.wanted, hgd]
  rw [if_pos hw]
  obtain ⟨cap', w', hrun, h1, h2, h3⟩ := run_append_new (P := P) w t o.type e i z size bytes ht hi hz hsize hby B A m xs hr hA ad c news hl hnews h63 hbytes
  unfold Oper.wp
  simp [execOp, ho, resolve, invoke, builtin, hs, hx, hrun, Result.andThen]
  refine h cap' w' h1 h2 h3 ?_
  obtain ⟨b, off, e, hb, _⟩ := h2.2 (by omega)
  injection e with e
  injection e with e _
  omega
end Go.Proofs.Ytmjkopejbdipcaa
namespace Go.Proofs.Ytmjkopejbdipcaa
set_option linter.unusedSimpArgs false
set_option linter.unusedVariables false
open Go.RowKit

theorem info_got : (Try.prog.info? 119).map (fun i => (i.zero, i.size, i.bytes)) = some (some (.agg #[.int .i64 0, .int .u32 0, .int .u32 0, .bool false]), 4, 24) := by kernel_rfl
theorem gen_wp {P : Program} {c : Code} {a : Act} {Q : Exit → Act → World → Prop} {W : World} (F : World → Prop) (hF : F W) (h : ∀ W', F W' → Code.wp P c Q a W') : Code.wp P c Q a W := h W hF
/-- The results that a task was given: a slice that can be read. -/
def GotsR (w : World) (A : Option Addr) (m cp : Nat) : Prop := m ≤ cp ∧ (A = none → m = 0) ∧ ∃ xs, Rd w w.heap.size 4 A m xs
def NewB (w : World) (A : Option Addr) : Prop := ∀ b off, A = some ⟨b, off, none⟩ → w.heap.size ≤ b
theorem GotsR.below {w w' : World} {A : Option Addr} {m cp : Nat} (h : GotsR w A m cp) (hb : Below w.heap.size w w') : GotsR w' A m cp := by
  obtain ⟨h1, h2, xs, h3⟩ := h
  exact ⟨h1, h2, xs, (h3.below hb).more hb.size⟩

set_option maxHeartbeats 2000000 in
set_option maxRecDepth 100000 in
theorem give_go (T : TypeId) (M : Nat) (p p' c0 : Value) (a a' : AS) (g : GS) (A : Option Addr) (m cp : Nat) (w : World) (hT : CodeT T)
    (hmeth : ∀ v w, (method 306 T v "Next").run Try.prog w = .ok (M, v) w) (hent : ∀ args w, (callFunc M args).run Try.prog w = .ok (.enter M args) w)
    (hm : m ≤ 1000) (hg : GotsR w A m cp)
    (hcall : ∀ W, Below w.heap.size w W → Calls Try.prog M #[p, (.agg #[.int .i64 (g).v, .int .u32 (g).r, .int .u32 (g).f, .bool (g).k])] W fun e W' => e = .returned (.tuple #[.iface T p', (.agg #[.int .i64 (a').o, .int .i64 (a').l, .int .i64 (a').v, .int .u32 (a').r, .int .u32 (a').f, .int .i64 (a').v2, .int .u32 (a').r2, .int .u32 (a').f2]), .bool false]) ∧ Below W.heap.size W W') :
    Calls Try.prog 46 #[(.agg #[c0, (.func (Fn.method "Next") #[.iface T p] #[]), .int .i64 (a).o, .int .i64 (a).l, .int .i64 (a).v, .int .u32 (a).r, .int .u32 (a).f, .int .i64 (a).v2, .int .u32 (a).r2, .int .u32 (a).f2, .slice A m cp]), (.agg #[.int .i64 (g).v, .int .u32 (g).r, .int .u32 (g).f, .bool (g).k])] w fun e w' => ∃ A' cp', e = .returned (.agg #[.iface T p', (.func (Fn.method "Next") #[.iface T p'] #[]), .int .i64 (a').o, .int .i64 (a').l, .int .i64 (a').v, .int .u32 (a').r, .int .u32 (a').f, .int .i64 (a').v2, .int .u32 (a').r2, .int .u32 (a').f2, .slice A' (m + 1) cp']) ∧ GotsR w' A' (m + 1) cp' ∧ NewB w A' ∧ Below w.heap.size w w' := by
  obtain ⟨i0, hi, iz0, iz1, iz2⟩ := info_parts info_got
  obtain ⟨hmc, hA, xs, hr⟩ := hg
  have Hcall := hide hcall
  have Hr := hide hr
  have HA := hide hA
  have HT := hide hT
  clear hcall hr hA hT
  go_enter Try.func46, Try.ntmps46
  go_wp2_with fail
  refine (done_no T p c0 a A m cp _).mono ?_
  rintro e w1 ⟨rfl, hb1⟩
  obtain ⟨hcc1, hff1⟩ := bcell hb1; have hs1 := hb1.size; (try simp at hs1); have hz1 : w.heap.size < w1.heap.size := (by omega)
  have hz2 : w.heap.size + 1 < w1.heap.size := by omega
  have hz3 : w.heap.size + 1 + 1 < w1.heap.size := by omega
  have hB1 : Below w.heap.size w w1 := (by repeat' (first | with_reducible exact Below.refl _ _ | with_reducible assumption | with_reducible refine Below.alloc ?_ ?_ _ | with_reducible refine Below.setCell ?_ ?_ _ | with_reducible refine Below.drew ?_ | with_reducible refine below_drewN ?_ _ | with_reducible refine Below.trans ?_ (Below.mono (by with_reducible assumption) ?_) | omega | (simp <;> omega)))
  have b0 : w1.cell? ⟨w.heap.size, 0, none⟩ = some c0 := by go_simp
  have b1 : w1.cell? ⟨w.heap.size, 1, none⟩ = some (.func (Fn.method "Next") #[.iface T p] #[]) := by go_simp
  have b2 : w1.cell? ⟨w.heap.size, 2, none⟩ = some (.int .i64 a.o) := by go_simp
  have b3 : w1.cell? ⟨w.heap.size, 3, none⟩ = some (.int .i64 a.l) := by go_simp
  have b4 : w1.cell? ⟨w.heap.size, 4, none⟩ = some (.int .i64 a.v) := by go_simp
  have b5 : w1.cell? ⟨w.heap.size, 5, none⟩ = some (.int .u32 a.r) := by go_simp
  have b6 : w1.cell? ⟨w.heap.size, 6, none⟩ = some (.int .u32 a.f) := by go_simp
  have b7 : w1.cell? ⟨w.heap.size, 7, none⟩ = some (.int .i64 a.v2) := by go_simp
  have b8 : w1.cell? ⟨w.heap.size, 8, none⟩ = some (.int .u32 a.r2) := by go_simp
  have b9 : w1.cell? ⟨w.heap.size, 9, none⟩ = some (.int .u32 a.f2) := by go_simp
  have b10 : w1.cell? ⟨w.heap.size, 10, none⟩ = some (.slice A m cp) := by go_simp
  have g0 : w1.cell? ⟨w.heap.size + 1, 0, none⟩ = some (.int .i64 g.v) := by go_simp
  have g1 : w1.cell? ⟨w.heap.size + 1, 1, none⟩ = some (.int .u32 g.r) := by go_simp
  have g2 : w1.cell? ⟨w.heap.size + 1, 2, none⟩ = some (.int .u32 g.f) := by go_simp
  have g3 : w1.cell? ⟨w.heap.size + 1, 3, none⟩ = some (.bool g.k) := by go_simp
  have q10 : w1.frozen? ⟨w.heap.size, 10, none⟩ = false := by rw [hff1 _ _ (by simp <;> omega)]; go_simp
  have t0 : w1.cell? ⟨w.heap.size + 1 + 1, 0, none⟩ = some (.nilIface) := by go_simp
  have t1 : w1.cell? ⟨w.heap.size + 1 + 1, 1, none⟩ = some (.nilFunc) := by go_simp
  have t2 : w1.cell? ⟨w.heap.size + 1 + 1, 2, none⟩ = some (.int .i64 0) := by go_simp
  have t3 : w1.cell? ⟨w.heap.size + 1 + 1, 3, none⟩ = some (.int .i64 0) := by go_simp
  have t4 : w1.cell? ⟨w.heap.size + 1 + 1, 4, none⟩ = some (.int .i64 0) := by go_simp
  have t5 : w1.cell? ⟨w.heap.size + 1 + 1, 5, none⟩ = some (.int .u32 0) := by go_simp
  have t6 : w1.cell? ⟨w.heap.size + 1 + 1, 6, none⟩ = some (.int .u32 0) := by go_simp
  have t7 : w1.cell? ⟨w.heap.size + 1 + 1, 7, none⟩ = some (.int .i64 0) := by go_simp
  have t8 : w1.cell? ⟨w.heap.size + 1 + 1, 8, none⟩ = some (.int .u32 0) := by go_simp
  have t9 : w1.cell? ⟨w.heap.size + 1 + 1, 9, none⟩ = some (.int .u32 0) := by go_simp
  have t10 : w1.cell? ⟨w.heap.size + 1 + 1, 10, none⟩ = some (.slice none 0 0) := by go_simp
  have p0 : ∀ o, w1.frozen? ⟨w.heap.size + 1 + 1, o, none⟩ = false := fun o => by rw [hff1 _ _ (by simp <;> omega)]; exact World.frozen?_alloc_at _ _ _ _ (by simp)
  have hr1 := Hr.out.below hB1
  have Hr1 := hide hr1
  clear hcc1 hff1 hb1 hr1
  go_upto_region 4 with fail
  go_cut [5] (fun s5 wx => ∃ cp' : Nat, s5 = (.func (Fn.method "Next") #[.iface T p] #[]) ∧ (wx.cell? ⟨w.heap.size, 0, none⟩ = some (c0) ∧ wx.cell? ⟨w.heap.size, 1, none⟩ = some ((.func (Fn.method "Next") #[.iface T p] #[])) ∧ wx.cell? ⟨w.heap.size, 2, none⟩ = some (.int .i64 a.o) ∧ wx.cell? ⟨w.heap.size, 3, none⟩ = some (.int .i64 a.l) ∧ wx.cell? ⟨w.heap.size, 4, none⟩ = some (.int .i64 a.v) ∧ wx.cell? ⟨w.heap.size, 5, none⟩ = some (.int .u32 a.r) ∧ wx.cell? ⟨w.heap.size, 6, none⟩ = some (.int .u32 a.f) ∧ wx.cell? ⟨w.heap.size, 7, none⟩ = some (.int .i64 a.v2) ∧ wx.cell? ⟨w.heap.size, 8, none⟩ = some (.int .u32 a.r2) ∧ wx.cell? ⟨w.heap.size, 9, none⟩ = some (.int .u32 a.f2) ∧ wx.cell? ⟨w.heap.size, 10, none⟩ = some (.slice (some ⟨w1.heap.size + 1, 0, none⟩) (m + 1) cp') ∧ wx.cell? ⟨w.heap.size + 1, 0, none⟩ = some (.int .i64 g.v) ∧ wx.cell? ⟨w.heap.size + 1, 1, none⟩ = some (.int .u32 g.r) ∧ wx.cell? ⟨w.heap.size + 1, 2, none⟩ = some (.int .u32 g.f) ∧ wx.cell? ⟨w.heap.size + 1, 3, none⟩ = some (.bool g.k)) ∧ (wx.cell? ⟨w.heap.size + 1 + 1, 0, none⟩ = some (.nilIface) ∧ wx.cell? ⟨w.heap.size + 1 + 1, 1, none⟩ = some (.nilFunc) ∧ wx.cell? ⟨w.heap.size + 1 + 1, 2, none⟩ = some (.int .i64 0) ∧ wx.cell? ⟨w.heap.size + 1 + 1, 3, none⟩ = some (.int .i64 0) ∧ wx.cell? ⟨w.heap.size + 1 + 1, 4, none⟩ = some (.int .i64 0) ∧ wx.cell? ⟨w.heap.size + 1 + 1, 5, none⟩ = some (.int .u32 0) ∧ wx.cell? ⟨w.heap.size + 1 + 1, 6, none⟩ = some (.int .u32 0) ∧ wx.cell? ⟨w.heap.size + 1 + 1, 7, none⟩ = some (.int .i64 0) ∧ wx.cell? ⟨w.heap.size + 1 + 1, 8, none⟩ = some (.int .u32 0) ∧ wx.cell? ⟨w.heap.size + 1 + 1, 9, none⟩ = some (.int .u32 0) ∧ wx.cell? ⟨w.heap.size + 1 + 1, 10, none⟩ = some (.slice none 0 0)) ∧ (∀ o, wx.frozen? ⟨w.heap.size + 1 + 1, o, none⟩ = false) ∧ Below w.heap.size w wx ∧ w.heap.size + 1 + 1 < wx.heap.size ∧ (∃ zs, Rd wx wx.heap.size 4 (some ⟨w1.heap.size + 1, 0, none⟩) (m + 1) zs) ∧ m + 1 ≤ cp')
  case first =>
    go_region_law (first
      | (refine step_append_new rfl (.tmp 13) (.tmp 15) 70 rfl 119 i0 _ 4 24 Try.underlying70 hi iz0 iz1 iz2 w.heap.size A m xs (by simp [Act.eval, Act.put]) (Hr1.out.below (by repeat' (first | with_reducible exact Below.refl _ _ | with_reducible assumption | with_reducible refine Below.alloc ?_ ?_ _ | with_reducible refine Below.setCell ?_ ?_ _ | with_reducible refine Below.drew ?_ | with_reducible refine below_drewN ?_ _ | with_reducible refine Below.trans ?_ (Below.mono (by with_reducible assumption) ?_) | omega | (simp <;> omega)))) HA.out ⟨w1.heap.size, 0, none⟩ 1 [.int .i64 g.v, .int .u32 g.r, .int .u32 g.f, .bool g.k] (by simp [Act.eval, Act.put]) rfl ?_ (by unfold maxLen; omega) (by omega) ?_; (focus (intro j u hu; match j, hu with | 0, hu => (simp at hu; subst hu; simp [Addr.add]) | 1, hu => (simp at hu; subst hu; simp [Addr.add]) | 2, hu => (simp at hu; subst hu; simp [Addr.add]) | 3, hu => (simp at hu; subst hu; simp [Addr.add]) | j + 4, hu => simp at hu)); intro cp' w2 hcp hrd2 hb2 hz3; obtain ⟨hcc2, hff2⟩ := bcell hb2)
      | (go_simp; go_at_call 60; refine (clip_any A m cp _ hmc).mono ?_; rintro e w3 ⟨rfl, rfl⟩))
    all_goals go_wp2_with fail
    all_goals go_meet
    all_goals have hx2 : w1.heap.size + 1 < w2.heap.size := (by have h := hz3; (try simp at h); omega)
    all_goals have hx1 : w1.heap.size < w2.heap.size := by omega
    all_goals have hb0 : Below w.heap.size w w2 := (by repeat' (first | with_reducible exact Below.refl _ _ | with_reducible assumption | with_reducible refine Below.alloc ?_ ?_ _ | with_reducible refine Below.setCell ?_ ?_ _ | with_reducible refine Below.drew ?_ | with_reducible refine below_drewN ?_ _ | with_reducible refine Below.trans ?_ (Below.mono (by with_reducible assumption) ?_) | omega | (simp <;> omega)))
    all_goals have r10 : w2.cell? ⟨w.heap.size, 10, none⟩ = some (.slice A m cp) := by go_simp
    all_goals refine ⟨cp', rfl, ⟨by go_simp, by go_simp, by go_simp, by go_simp, by go_simp, by go_simp, by go_simp, by go_simp, by go_simp, by go_simp, by go_simp, by go_simp, by go_simp, by go_simp, by go_simp⟩, ⟨by go_simp, by go_simp, by go_simp, by go_simp, by go_simp, by go_simp, by go_simp, by go_simp, by go_simp, by go_simp, by go_simp⟩, fun o => ?_, (by repeat' (first | with_reducible exact Below.refl _ _ | with_reducible assumption | with_reducible refine Below.alloc ?_ ?_ _ | with_reducible refine Below.setCell ?_ ?_ _ | with_reducible refine Below.drew ?_ | with_reducible refine below_drewN ?_ _ | with_reducible refine Below.trans ?_ (Below.mono (by with_reducible assumption) ?_) | omega | (simp <;> omega))), by simp; omega, ⟨xs ++ [.int .i64 g.v, .int .u32 g.r, .int .u32 g.f, .bool g.k], ?_⟩, hcp.out⟩
    all_goals first
      | (rw [World.frozen?_setCell, hff2 _ _ (by simp <;> omega)]; go_simp; done)
      | skip
    all_goals have h7 := hrd2.out
    all_goals (try simp at h7)
    all_goals with_reducible refine Rd.set_far ?_ (by omega) _
    all_goals exact Rd.more h7 (by simp)
  case rest =>
    obtain ⟨cp', rfl, ⟨s0, s1, s2, s3, s4, s5, s6, s7, s8, s9, s10, s11, s12, s13, s14⟩, ⟨t0, t1, t2, t3, t4, t5, t6, t7, t8, t9, t10⟩, p0', hB2, hz5, hR2, hcp⟩ := hcut
    have hz5a : w.heap.size < wc.heap.size := by omega
    have hz5b : w.heap.size + 1 < wc.heap.size := by omega
    go_wp2_with fail
    go_region_held3 (fun w' => w'.cell? ⟨w.heap.size, 0, none⟩ = some (c0) ∧ w'.cell? ⟨w.heap.size, 1, none⟩ = some ((.func (Fn.method "Next") #[.iface T p] #[])) ∧ w'.cell? ⟨w.heap.size, 2, none⟩ = some (.int .i64 a.o) ∧ w'.cell? ⟨w.heap.size, 3, none⟩ = some (.int .i64 a.l) ∧ w'.cell? ⟨w.heap.size, 4, none⟩ = some (.int .i64 a.v) ∧ w'.cell? ⟨w.heap.size, 5, none⟩ = some (.int .u32 a.r) ∧ w'.cell? ⟨w.heap.size, 6, none⟩ = some (.int .u32 a.f) ∧ w'.cell? ⟨w.heap.size, 7, none⟩ = some (.int .i64 a.v2) ∧ w'.cell? ⟨w.heap.size, 8, none⟩ = some (.int .u32 a.r2) ∧ w'.cell? ⟨w.heap.size, 9, none⟩ = some (.int .u32 a.f2) ∧ w'.cell? ⟨w.heap.size, 10, none⟩ = some (.slice (some ⟨w1.heap.size + 1, 0, none⟩) (m + 1) cp') ∧ w'.cell? ⟨w.heap.size + 1, 0, none⟩ = some (.int .i64 g.v) ∧ w'.cell? ⟨w.heap.size + 1, 1, none⟩ = some (.int .u32 g.r) ∧ w'.cell? ⟨w.heap.size + 1, 2, none⟩ = some (.int .u32 g.f) ∧ w'.cell? ⟨w.heap.size + 1, 3, none⟩ = some (.bool g.k))
      (first | exact ⟨by go_simp, by go_simp, by go_simp, by go_simp, by go_simp, by go_simp, by go_simp, by go_simp, by go_simp, by go_simp, by go_simp, by go_simp, by go_simp, by go_simp, by go_simp⟩ | go_keep)
      (first
        | (with_reducible refine (Hcall.out _ (by repeat' (first | with_reducible exact Below.refl _ _ | with_reducible assumption | with_reducible refine Below.alloc ?_ ?_ _ | with_reducible refine Below.setCell ?_ ?_ _ | with_reducible refine Below.drew ?_ | with_reducible refine below_drewN ?_ _ | with_reducible refine Below.trans ?_ (Below.mono (by with_reducible assumption) ?_) | omega | (simp <;> omega)))).mono ?_; rintro e w4 ⟨rfl, hb4'⟩; have hb4 : Below _ _ w4 := (by first | with_reducible exact noDrew hb4' | exact hb4'); clear hb4'; obtain ⟨hcc4, hff4⟩ := bcell hb4; have hs4 := hb4.size; have hz6 : w.heap.size < w4.heap.size := (by omega); have hz7 : w.heap.size + 1 < w4.heap.size := (by omega); have hz8 : w.heap.size + 1 + 1 < w4.heap.size := (by omega))
        | (go_at_call 38; refine (told_go T p' _ _ a a' _ _ _ _ HT.out).mono ?_; rintro e w5 ⟨rfl, hb5'⟩; have hb5 : Below _ _ w5 := (by first | with_reducible exact noDrew hb5' | exact hb5'); clear hb5'; obtain ⟨hcc5, hff5⟩ := bcell hb5; have hs5 := hb5.size; have hz9 : w.heap.size < w5.heap.size := (by omega); have hz10 : w.heap.size + 1 < w5.heap.size := (by omega); have hz11 : w.heap.size + 1 + 1 < w5.heap.size := (by omega)))
    all_goals have y0 : w5.cell? ⟨w.heap.size + 1 + 1, 0, none⟩ = some (.nilIface) := by go_simp
    all_goals have y1 : w5.cell? ⟨w.heap.size + 1 + 1, 1, none⟩ = some (.nilFunc) := by go_simp
    all_goals have y2 : w5.cell? ⟨w.heap.size + 1 + 1, 2, none⟩ = some (.int .i64 0) := by go_simp
    all_goals have y3 : w5.cell? ⟨w.heap.size + 1 + 1, 3, none⟩ = some (.int .i64 0) := by go_simp
    all_goals have y4 : w5.cell? ⟨w.heap.size + 1 + 1, 4, none⟩ = some (.int .i64 0) := by go_simp
    all_goals have y5 : w5.cell? ⟨w.heap.size + 1 + 1, 5, none⟩ = some (.int .u32 0) := by go_simp
    all_goals have y6 : w5.cell? ⟨w.heap.size + 1 + 1, 6, none⟩ = some (.int .u32 0) := by go_simp
    all_goals have y7 : w5.cell? ⟨w.heap.size + 1 + 1, 7, none⟩ = some (.int .i64 0) := by go_simp
    all_goals have y8 : w5.cell? ⟨w.heap.size + 1 + 1, 8, none⟩ = some (.int .u32 0) := by go_simp
    all_goals have y9 : w5.cell? ⟨w.heap.size + 1 + 1, 9, none⟩ = some (.int .u32 0) := by go_simp
    all_goals have y10 : w5.cell? ⟨w.heap.size + 1 + 1, 10, none⟩ = some (.slice none 0 0) := by go_simp
    all_goals have hbf : Below w.heap.size w w5 := (hB2.trans (hb4.mono (by omega))).trans (hb5.mono (by omega))
    all_goals clear hcc4 hff4 hcc5 hff5
    all_goals go_wp2
    all_goals refine bodyPost_ret (v := (.agg #[.iface T p', (.func (Fn.method "Next") #[.iface T p'] #[]), .int .i64 (a').o, .int .i64 (a').l, .int .i64 (a').v, .int .u32 (a').r, .int .u32 (a').f, .int .i64 (a').v2, .int .u32 (a').r2, .int .u32 (a').f2, .slice (some ⟨w1.heap.size + 1, 0, none⟩) (m + 1) cp'])) (by simp [results, Try.results46, go_sem, y0, y1, y2, y3, y4, y5, y6, y7, y8, y9, y10]) rfl ⟨some ⟨w1.heap.size + 1, 0, none⟩, cp', rfl, ⟨hcp, (fun e => by cases e), ?_⟩, (fun b off e => by injection e with e; injection e with e _; omega), (by repeat' (first | with_reducible exact Below.refl _ _ | with_reducible assumption | with_reducible refine Below.alloc ?_ ?_ _ | with_reducible refine Below.setCell ?_ ?_ _ | with_reducible refine Below.drew ?_ | with_reducible refine below_drewN ?_ _ | with_reducible refine Below.trans ?_ (Below.mono (by with_reducible assumption) ?_) | omega | (simp <;> omega)))⟩
    all_goals obtain ⟨zs, hR3⟩ := hR2
    all_goals have hR5 := (hR3.below (hb4.trans (hb5.mono hs4))).more (show wc.heap.size ≤ w5.heap.size by omega)
    all_goals refine ⟨zs, ?_⟩
    all_goals (repeat' with_reducible refine Rd.set_far ?_ (by omega) _)
    all_goals exact Rd.more hR5 (by simp)
end Go.Proofs.Ytmjkopejbdipcaa
