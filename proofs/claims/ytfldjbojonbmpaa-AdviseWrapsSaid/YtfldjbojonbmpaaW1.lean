/- Package atom at the operation Add 0 n: Check, Do, New, the code's Next, Answer. -/
import Derived.Test.YtfldjbojonbmpaaProg
import Derived.Test.YtfldjbojonbmpaaLib
import Derived.WalkKit
import Derived.WalkSpells
import Derived.WalkLawsBesides
import Derived.Deep.QuietTactic
import Derived.BigQuiet
import Derived.Deep.RegionHeld3
import Derived.Laws.EntriesVeiled
namespace Go.Proofs.Ytfldjbojonbmpaa
open Go.RowKit

theorem noDrew {a b : World} (h : Below a.drew.heap.size a.drew b) : Below a.heap.size a b := (Below.refl _ _).drew.trans h

theorem check_any (n : Int) (w : World) :
    Calls Try.prog 26 #[.agg #[.int .i64 0, .int .i64 0, .int .i64 n]] w fun e w' => e = .returned (.int .i64 0) ∧ Below w.heap.size w w' := by
  go_enter Try.func26, Try.ntmps26
  go_wp2
  go_ret
  exact ⟨rfl, (by repeat' (first | with_reducible exact Below.refl _ _ | with_reducible assumption | with_reducible refine Below.alloc ?_ ?_ _ | with_reducible refine Below.setCell ?_ ?_ _ | with_reducible refine Below.drew ?_ | with_reducible refine below_drewN ?_ _ | with_reducible refine Below.trans ?_ (Below.mono (by with_reducible assumption) ?_) | omega | (simp <;> omega)))⟩

theorem add_any (v n : Int) (w : World) :
    Calls Try.prog 48 #[.int .i64 v, .int .i64 n] w fun e w' => e = .returned (.int .i64 (wrap64 (v + n))) ∧ w = w' := by
  go_enter Try.func48, Try.ntmps48
  go_wp2
  go_ret
  exact ⟨rfl, rfl⟩

/-- The table of the kinds' functions. -/
def Mk : Value := .agg #[.func (Fn.func 48) #[] #[], .func (Fn.func 49) #[] #[], .func (Fn.func 50) #[] #[], .func (Fn.func 51) #[] #[]]
theorem makes_any (w : World) :
    Calls Try.prog 47 #[] w fun e w' => e = .returned Mk ∧ Below w.heap.size w w' := by
  go_enter Try.func47, Try.ntmps47
  go_wp2
  exact bodyPost_ret (v := Mk) (by simp [Mk, results, Try.results47, go_sem]) rfl ⟨rfl, (by repeat' (first | with_reducible exact Below.refl _ _ | with_reducible assumption | with_reducible refine Below.alloc ?_ ?_ _ | with_reducible refine Below.setCell ?_ ?_ _ | with_reducible refine Below.drew ?_ | with_reducible refine below_drewN ?_ _ | with_reducible refine Below.trans ?_ (Below.mono (by with_reducible assumption) ?_) | omega | (simp <;> omega)))⟩
theorem index_Mk (w : World) : (Instr.index 99 Mk (.int .i64 0)).run Try.prog w = .ok (.func (Fn.func 48) #[] #[]) w := by kernel_rfl

theorem do_any (v n : Int) (w : World) :
    Calls Try.prog 46 #[.agg #[.int .i64 0, .int .i64 0, .int .i64 n], .int .i64 v] w fun e w' => e = .returned (.tuple #[.int .i64 (wrap64 (v + n)), .int .i64 v]) ∧ Below w.heap.size w w' := by
  have hix := index_Mk
  go_enter Try.func46, Try.ntmps46
  go_wp2_with fail
  refine (check_any n _).mono ?_
  rintro e w1 ⟨rfl, hb1⟩
  obtain ⟨hcc1, hff1⟩ := bcell hb1; have hs1 := hb1.size; (try simp at hs1); have hz1 : w.heap.size < w1.heap.size := (by omega)
  have k0 : w1.cell? ⟨w.heap.size, 0, none⟩ = some (.int .i64 0) := by go_simp
  have k2 : w1.cell? ⟨w.heap.size, 2, none⟩ = some (.int .i64 n) := by go_simp
  go_wp2_with fail
  go_region_held3 (fun w' => w'.cell? ⟨w.heap.size, 0, none⟩ = some (.int .i64 0) ∧ w'.cell? ⟨w.heap.size, 2, none⟩ = some (.int .i64 n))
    (first | exact ⟨by go_simp, by go_simp⟩ | go_keep)
    (first
      | (go_at_call 47; refine (makes_any _).mono ?_; rintro e w2 ⟨rfl, hb2'⟩; have hb2 : Below _ _ w2 := (by first | with_reducible exact noDrew hb2' | exact hb2'); clear hb2'; obtain ⟨hcc2, hff2⟩ := bcell hb2; have hs2 := hb2.size; have hz2 : w.heap.size < w2.heap.size := (by omega))
      | (go_at_call 48; refine (add_any _ _ _).mono ?_; rintro e w3 ⟨rfl, rfl⟩))
  all_goals go_wp2
  all_goals go_ret2
  all_goals exact ⟨rfl, (by repeat' (first | with_reducible exact Below.refl _ _ | with_reducible assumption | with_reducible refine Below.alloc ?_ ?_ _ | with_reducible refine Below.setCell ?_ ?_ _ | with_reducible refine Below.drew ?_ | with_reducible refine below_drewN ?_ _ | with_reducible refine Below.trans ?_ (Below.mono (by with_reducible assumption) ?_) | omega | (simp <;> omega)))⟩

theorem new_any (n : Int) (w : World) :
    Calls Try.prog 18 #[.agg #[.int .i64 0, .int .i64 0, .int .i64 n]] w fun e w' => e = .returned (.tuple #[.iface 72 (.agg #[.int .i64 0, .int .i64 0, .int .i64 n, .bool false, .bool false, .bool false, .int .i64 0, .int .i64 0]), .int .i64 0]) ∧ Below w.heap.size w w' := by
  go_enter Try.func18, Try.ntmps18
  go_wp2_with fail
  refine (check_any n _).mono ?_
  rintro e w1 ⟨rfl, hb1⟩
  obtain ⟨hcc1, hff1⟩ := bcell hb1; have hs1 := hb1.size; (try simp at hs1); have hz1 : w.heap.size < w1.heap.size := (by omega)
  go_wp2
  go_ret2
  exact ⟨rfl, (by repeat' (first | with_reducible exact Below.refl _ _ | with_reducible assumption | with_reducible refine Below.alloc ?_ ?_ _ | with_reducible refine Below.setCell ?_ ?_ _ | with_reducible refine Below.drew ?_ | with_reducible refine below_drewN ?_ _ | with_reducible refine Below.trans ?_ (Below.mono (by with_reducible assumption) ?_) | omega | (simp <;> omega)))⟩

theorem code_any (n : Int) (w : World) (h0 : -128 ≤ n) (h1 : n ≤ 127) :
    Calls Try.prog 5 #[.int .i8 n] w fun e w' => e = .returned (.tuple #[.iface 72 (.agg #[.int .i64 0, .int .i64 0, .int .i64 n, .bool false, .bool false, .bool false, .int .i64 0, .int .i64 0]), .bool true]) ∧ Below w.heap.size w w' := by
  have hw : IntKind.i64.wrap n = n := IntWalk.i64_in _ (by omega)
  have hw2 : wrap64 n = n := by unfold wrap64; omega
  go_enter Try.func5, Try.ntmps5
  go_wp2_with fail
  refine (new_any n _).mono ?_
  rintro e w1 ⟨rfl, hb1⟩
  go_wp2
  go_ret2
  exact ⟨rfl, (by repeat' (first | with_reducible exact Below.refl _ _ | with_reducible assumption | with_reducible refine Below.alloc ?_ ?_ _ | with_reducible refine Below.setCell ?_ ?_ _ | with_reducible refine Below.drew ?_ | with_reducible refine below_drewN ?_ _ | with_reducible refine Below.trans ?_ (Below.mono (by with_reducible assumption) ?_) | omega | (simp <;> omega)))⟩

theorem ta_code (v : Value) (w : World) : (Instr.typeAssert (.iface 72 v) 26 72 true).run Try.prog w = .ok (.tuple #[v, .bool true]) w := by kernel_rfl
theorem ta_wr (v : Value) (w : World) : (Instr.typeAssert (.iface 66 v) 26 66 true).run Try.prog w = .ok (.tuple #[v, .bool true]) w := by kernel_rfl
theorem ta_wr_no (v : Value) (w : World) : (Instr.typeAssert (.iface 72 v) 26 66 true).run Try.prog w = .ok (.tuple #[.agg #[.nilIface, .int .i64 0, .bool false], .bool false]) w := by kernel_rfl
theorem ta_wr_nil (w : World) : (Instr.typeAssert .nilIface 26 66 true).run Try.prog w = .ok (.tuple #[.agg #[.nilIface, .int .i64 0, .bool false], .bool false]) w := by kernel_rfl

theorem answer_any (n t a : Int) (b s d : Bool) (w : World) :
    Calls Try.prog 11 #[.iface 72 (.agg #[.int .i64 0, .int .i64 0, .int .i64 n, .bool b, .bool s, .bool d, .int .i64 t, .int .i64 a])] w fun e w' => e = .returned (.tuple #[.int .i64 (if d then a else 0), .bool d]) ∧ Below w.heap.size w w' := by
  have hta := ta_code
  cases d with
  | false =>
    go_enter Try.func11, Try.ntmps11
    go_wp2
    go_ret2
    exact ⟨rfl, (by repeat' (first | with_reducible exact Below.refl _ _ | with_reducible assumption | with_reducible refine Below.alloc ?_ ?_ _ | with_reducible refine Below.setCell ?_ ?_ _ | with_reducible refine Below.drew ?_ | with_reducible refine below_drewN ?_ _ | with_reducible refine Below.trans ?_ (Below.mono (by with_reducible assumption) ?_) | omega | (simp <;> omega)))⟩
  | true =>
    go_enter Try.func11, Try.ntmps11
    go_wp2
    go_ret2
    exact ⟨rfl, (by repeat' (first | with_reducible exact Below.refl _ _ | with_reducible assumption | with_reducible refine Below.alloc ?_ ?_ _ | with_reducible refine Below.setCell ?_ ?_ _ | with_reducible refine Below.drew ?_ | with_reducible refine below_drewN ?_ _ | with_reducible refine Below.trans ?_ (Below.mono (by with_reducible assumption) ?_) | omega | (simp <;> omega)))⟩
end Go.Proofs.Ytfldjbojonbmpaa
