/- Packages advise (Wrap, Inner) and task (told, Done, Act, Code). -/
import Derived.Test.YtfldjbojonbmpaaW3
namespace Go.Proofs.Ytfldjbojonbmpaa
open Go.RowKit

/-- What is known of a code's type: it is no nil. -/
def CodeT (T : TypeId) : Prop := (∀ p w, (binOp .eql 26 (.iface T p) .nilIface).run Try.prog w = .ok (.bool false) w) ∧ (∀ p w, (nilAhead 202 T p "Next").run Try.prog w = .ok (some false) w) ∧ (∀ p w, (binOp .neq 26 (.iface T p) .nilIface).run Try.prog w = .ok (.bool true) w)
theorem codeT_code : CodeT 72 := ⟨fun p w => by kernel_rfl, fun p w => by kernel_rfl, fun p w => by kernel_rfl⟩
theorem codeT_wr : CodeT 66 := ⟨fun p w => by kernel_rfl, fun p w => by kernel_rfl, fun p w => by kernel_rfl⟩
theorem nil_eq (w : World) : (binOp .eql 26 .nilIface .nilIface).run Try.prog w = .ok (.bool true) w := by kernel_rfl
theorem nil_ne (w : World) : (binOp .neq 26 .nilIface .nilIface).run Try.prog w = .ok (.bool false) w := by kernel_rfl

theorem told_go (T : TypeId) (p c0 nx0 : Value) (a0 a : AS) (A : Option Addr) (m cp : Nat) (w : World) (hT : CodeT T) :
    Calls Try.prog 19 #[(.agg #[c0, nx0, .int .i64 (a0).o, .int .i64 (a0).l, .int .i64 (a0).v, .int .u32 (a0).r, .int .u32 (a0).f, .int .i64 (a0).v2, .int .u32 (a0).r2, .int .u32 (a0).f2, .slice A m cp]), .iface T p, (.agg #[.int .i64 (a).o, .int .i64 (a).l, .int .i64 (a).v, .int .u32 (a).r, .int .u32 (a).f, .int .i64 (a).v2, .int .u32 (a).r2, .int .u32 (a).f2]), .bool false] w fun e w' => e = .returned (.agg #[.iface T p, (.func (Fn.method "Next") #[.iface T p] #[]), .int .i64 (a).o, .int .i64 (a).l, .int .i64 (a).v, .int .u32 (a).r, .int .u32 (a).f, .int .i64 (a).v2, .int .u32 (a).r2, .int .u32 (a).f2, .slice A m cp]) ∧ Below w.heap.size w w' := by
  obtain ⟨h1, h2, _⟩ := hT
  go_enter Try.func19, Try.ntmps19
  go_wp2_with fail
  go_region
  all_goals go_wp2
  all_goals exact bodyPost_ret (v := (.agg #[.iface T p, (.func (Fn.method "Next") #[.iface T p] #[]), .int .i64 (a).o, .int .i64 (a).l, .int .i64 (a).v, .int .u32 (a).r, .int .u32 (a).f, .int .i64 (a).v2, .int .u32 (a).r2, .int .u32 (a).f2, .slice A m cp])) (by simp [results, Try.results19, go_sem]) rfl ⟨rfl, (by repeat' (first | with_reducible exact Below.refl _ _ | with_reducible assumption | with_reducible refine Below.alloc ?_ ?_ _ | with_reducible refine Below.setCell ?_ ?_ _ | with_reducible refine Below.drew ?_ | with_reducible refine below_drewN ?_ _ | with_reducible refine Below.trans ?_ (Below.mono (by with_reducible assumption) ?_) | omega | (simp <;> omega)))⟩

theorem told_done (T : TypeId) (p c0 nx0 : Value) (a0 a : AS) (A : Option Addr) (m cp : Nat) (w : World) (hT : CodeT T) :
    Calls Try.prog 19 #[(.agg #[c0, nx0, .int .i64 (a0).o, .int .i64 (a0).l, .int .i64 (a0).v, .int .u32 (a0).r, .int .u32 (a0).f, .int .i64 (a0).v2, .int .u32 (a0).r2, .int .u32 (a0).f2, .slice A m cp]), .iface T p, (.agg #[.int .i64 (a).o, .int .i64 (a).l, .int .i64 (a).v, .int .u32 (a).r, .int .u32 (a).f, .int .i64 (a).v2, .int .u32 (a).r2, .int .u32 (a).f2]), .bool true] w fun e w' => e = .returned (.agg #[.iface T p, .nilFunc, .int .i64 (A0).o, .int .i64 (A0).l, .int .i64 (A0).v, .int .u32 (A0).r, .int .u32 (A0).f, .int .i64 (A0).v2, .int .u32 (A0).r2, .int .u32 (A0).f2, .slice A m cp]) ∧ Below w.heap.size w w' := by
  obtain ⟨h1, h2, _⟩ := hT
  go_enter Try.func19, Try.ntmps19
  go_wp2_with fail
  go_region
  all_goals go_wp2
  all_goals exact bodyPost_ret (v := (.agg #[.iface T p, .nilFunc, .int .i64 (A0).o, .int .i64 (A0).l, .int .i64 (A0).v, .int .u32 (A0).r, .int .u32 (A0).f, .int .i64 (A0).v2, .int .u32 (A0).r2, .int .u32 (A0).f2, .slice A m cp])) (by simp [results, Try.results19, go_sem, A0]) rfl ⟨rfl, (by repeat' (first | with_reducible exact Below.refl _ _ | with_reducible assumption | with_reducible refine Below.alloc ?_ ?_ _ | with_reducible refine Below.setCell ?_ ?_ _ | with_reducible refine Below.drew ?_ | with_reducible refine below_drewN ?_ _ | with_reducible refine Below.trans ?_ (Below.mono (by with_reducible assumption) ?_) | omega | (simp <;> omega)))⟩

theorem fn_eq (T : TypeId) (p : Value) (w : World) : (binOp .eql 31 (.func (Fn.method "Next") #[.iface T p] #[]) .nilFunc).run Try.prog w = .ok (.bool false) w := by kernel_rfl
theorem nilfn_eq (w : World) : (binOp .eql 31 .nilFunc .nilFunc).run Try.prog w = .ok (.bool true) w := by kernel_rfl
theorem done_no (T : TypeId) (p c0 : Value) (a0 : AS) (A : Option Addr) (m cp : Nat) (w : World) :
    Calls Try.prog 20 #[(.agg #[c0, (.func (Fn.method "Next") #[.iface T p] #[]), .int .i64 (a0).o, .int .i64 (a0).l, .int .i64 (a0).v, .int .u32 (a0).r, .int .u32 (a0).f, .int .i64 (a0).v2, .int .u32 (a0).r2, .int .u32 (a0).f2, .slice A m cp])] w fun e w' => e = .returned (.bool false) ∧ Below w.heap.size w w' := by
  have hf1 := fn_eq
  have hf2 := nilfn_eq
  go_enter Try.func20, Try.ntmps20
  go_wp2
  go_ret
  exact ⟨rfl, (by repeat' (first | with_reducible exact Below.refl _ _ | with_reducible assumption | with_reducible refine Below.alloc ?_ ?_ _ | with_reducible refine Below.setCell ?_ ?_ _ | with_reducible refine Below.drew ?_ | with_reducible refine below_drewN ?_ _ | with_reducible refine Below.trans ?_ (Below.mono (by with_reducible assumption) ?_) | omega | (simp <;> omega)))⟩
theorem done_yes (c0 : Value) (a0 : AS) (A : Option Addr) (m cp : Nat) (w : World) :
    Calls Try.prog 20 #[(.agg #[c0, .nilFunc, .int .i64 (a0).o, .int .i64 (a0).l, .int .i64 (a0).v, .int .u32 (a0).r, .int .u32 (a0).f, .int .i64 (a0).v2, .int .u32 (a0).r2, .int .u32 (a0).f2, .slice A m cp])] w fun e w' => e = .returned (.bool true) ∧ Below w.heap.size w w' := by
  have hf1 := fn_eq
  have hf2 := nilfn_eq
  go_enter Try.func20, Try.ntmps20
  go_wp2
  go_ret
  exact ⟨rfl, (by repeat' (first | with_reducible exact Below.refl _ _ | with_reducible assumption | with_reducible refine Below.alloc ?_ ?_ _ | with_reducible refine Below.setCell ?_ ?_ _ | with_reducible refine Below.drew ?_ | with_reducible refine below_drewN ?_ _ | with_reducible refine Below.trans ?_ (Below.mono (by with_reducible assumption) ?_) | omega | (simp <;> omega)))⟩
theorem tcode_any (T : TypeId) (p nx0 : Value) (a0 : AS) (A : Option Addr) (m cp : Nat) (w : World) :
    Calls Try.prog 12 #[(.agg #[.iface T p, nx0, .int .i64 (a0).o, .int .i64 (a0).l, .int .i64 (a0).v, .int .u32 (a0).r, .int .u32 (a0).f, .int .i64 (a0).v2, .int .u32 (a0).r2, .int .u32 (a0).f2, .slice A m cp])] w fun e w' => e = .returned (.iface T p) ∧ Below w.heap.size w w' := by
  go_enter Try.func12, Try.ntmps12
  go_wp2
  go_ret
  exact ⟨rfl, (by repeat' (first | with_reducible exact Below.refl _ _ | with_reducible assumption | with_reducible refine Below.alloc ?_ ?_ _ | with_reducible refine Below.setCell ?_ ?_ _ | with_reducible refine Below.drew ?_ | with_reducible refine below_drewN ?_ _ | with_reducible refine Below.trans ?_ (Below.mono (by with_reducible assumption) ?_) | omega | (simp <;> omega)))⟩

theorem wrap_nil (r : Int) (w : World) :
    Calls Try.prog 6 #[.nilIface, .int .i64 r] w fun e w' => e = .returned .nilIface ∧ w = w' := by
  have h := nil_eq
  go_enter Try.func6, Try.ntmps6
  go_wp2
  go_ret
  exact ⟨rfl, rfl⟩
/-- How often a wrapped code rests. -/
def many (r : Int) : Int := max 0 (min r 64)
theorem wrap_any (T : TypeId) (p : Value) (r : Int) (w : World) (hT : CodeT T) :
    Calls Try.prog 6 #[.iface T p, .int .i64 r] w fun e w' => e = .returned (.iface 66 (.agg #[.iface T p, .int .i64 (many r), .bool false])) ∧ w = w' := by
  obtain ⟨h1, h2, _⟩ := hT
  by_cases h64 : 64 < r
  · have hm : Hid (many r = 64) := hide (by unfold many; omega)
    rw [hm.out]
    go_enter Try.func6, Try.ntmps6
    go_wp2
    go_ret
    exact ⟨rfl, rfl⟩
  · by_cases h0 : 0 < r
    · have hm : Hid (many r = r) := hide (by unfold many; omega)
      rw [hm.out]
      go_enter Try.func6, Try.ntmps6
      go_wp2
      go_ret
      exact ⟨rfl, rfl⟩
    · have hm : Hid (many r = 0) := hide (by unfold many; omega)
      rw [hm.out]
      go_enter Try.func6, Try.ntmps6
      go_wp2
      go_ret
      exact ⟨rfl, rfl⟩

theorem inner_nil (w : World) :
    Calls Try.prog 7 #[.nilIface] w fun e w' => e = .returned .nilIface ∧ Below w.heap.size w w' := by
  have h := ta_wr_nil
  go_enter Try.func7, Try.ntmps7
  go_wp2_with fail
  refine wp_loop_rounds 1 ?_
  rw [rounds_succ]
  go_wp2
  go_ret
  exact ⟨rfl, (by repeat' (first | with_reducible exact Below.refl _ _ | with_reducible assumption | with_reducible refine Below.alloc ?_ ?_ _ | with_reducible refine Below.setCell ?_ ?_ _ | with_reducible refine Below.drew ?_ | with_reducible refine below_drewN ?_ _ | with_reducible refine Below.trans ?_ (Below.mono (by with_reducible assumption) ?_) | omega | (simp <;> omega)))⟩
theorem inner_any (q : Value) (l : Int) (b : Bool) (w : World) :
    Calls Try.prog 7 #[.iface 66 (.agg #[.iface 72 q, .int .i64 l, .bool b])] w fun e w' => e = .returned (.iface 72 q) ∧ Below w.heap.size w w' := by
  have h := ta_wr
  have h2 := ta_wr_no
  go_enter Try.func7, Try.ntmps7
  go_wp2_with fail
  refine wp_loop_rounds 2 ?_
  rw [rounds_succ]
  go_wp2_with fail
  rw [rounds_succ]
  go_wp2
  go_ret
  exact ⟨rfl, (by repeat' (first | with_reducible exact Below.refl _ _ | with_reducible assumption | with_reducible refine Below.alloc ?_ ?_ _ | with_reducible refine Below.setCell ?_ ?_ _ | with_reducible refine Below.drew ?_ | with_reducible refine below_drewN ?_ _ | with_reducible refine Below.trans ?_ (Below.mono (by with_reducible assumption) ?_) | omega | (simp <;> omega)))⟩
theorem clip_any (A : Option Addr) (m cp : Nat) (w : World) (h : m ≤ cp) :
    Calls Try.prog 21 #[.slice A m cp] w fun e w' => e = .returned (.slice A m m) ∧ w = w' := by
  go_enter Try.func21, Try.ntmps21
  go_wp2
  all_goals go_ret
  all_goals exact ⟨rfl, rfl⟩

theorem act_no (T : TypeId) (p c0 : Value) (a : AS) (A : Option Addr) (m cp : Nat) (w : World) :
    Calls Try.prog 9 #[(.agg #[c0, (.func (Fn.method "Next") #[.iface T p] #[]), .int .i64 (a).o, .int .i64 (a).l, .int .i64 (a).v, .int .u32 (a).r, .int .u32 (a).f, .int .i64 (a).v2, .int .u32 (a).r2, .int .u32 (a).f2, .slice A m cp])] w fun e w' => e = .returned (.tuple #[(.agg #[.int .i64 (a).o, .int .i64 (a).l, .int .i64 (a).v, .int .u32 (a).r, .int .u32 (a).f, .int .i64 (a).v2, .int .u32 (a).r2, .int .u32 (a).f2]), .bool true]) ∧ Below w.heap.size w w' := by
  go_enter Try.func9, Try.ntmps9
  go_wp2_with fail
  go_region_held3 (fun w' => w'.cell? ⟨w.heap.size, 0, none⟩ = some (c0) ∧ w'.cell? ⟨w.heap.size, 1, none⟩ = some ((.func (Fn.method "Next") #[.iface T p] #[])) ∧ w'.cell? ⟨w.heap.size, 2, none⟩ = some (.int .i64 a.o) ∧ w'.cell? ⟨w.heap.size, 3, none⟩ = some (.int .i64 a.l) ∧ w'.cell? ⟨w.heap.size, 4, none⟩ = some (.int .i64 a.v) ∧ w'.cell? ⟨w.heap.size, 5, none⟩ = some (.int .u32 a.r) ∧ w'.cell? ⟨w.heap.size, 6, none⟩ = some (.int .u32 a.f) ∧ w'.cell? ⟨w.heap.size, 7, none⟩ = some (.int .i64 a.v2) ∧ w'.cell? ⟨w.heap.size, 8, none⟩ = some (.int .u32 a.r2) ∧ w'.cell? ⟨w.heap.size, 9, none⟩ = some (.int .u32 a.f2) ∧ w'.cell? ⟨w.heap.size, 10, none⟩ = some (.slice A m cp))
    (first | exact ⟨by go_simp, by go_simp, by go_simp, by go_simp, by go_simp, by go_simp, by go_simp, by go_simp, by go_simp, by go_simp, by go_simp⟩ | go_keep)
    (first | (go_at_call 20; refine (done_no T p c0 a A m cp _).mono ?_; rintro e w1 ⟨rfl, hb1'⟩; have hb1 : Below _ _ w1 := (by first | with_reducible exact noDrew hb1' | exact hb1'); clear hb1'; obtain ⟨hcc1, hff1⟩ := bcell hb1; have hs1 := hb1.size; (try simp at hs1); have hz1 : w.heap.size < w1.heap.size := (by omega); have hz2 : w.heap.size + 1 < w1.heap.size := (by omega); have z0 : w1.cell? ⟨w.heap.size + 1, 0, none⟩ = some (.int .i64 0) := (by go_simp)))
  have z0' : w1.cell? ⟨w.heap.size + 1, 0, none⟩ = some (.int .i64 0) := by go_simp
  have z1' : w1.cell? ⟨w.heap.size + 1, 1, none⟩ = some (.int .i64 0) := by go_simp
  have z2' : w1.cell? ⟨w.heap.size + 1, 2, none⟩ = some (.int .i64 0) := by go_simp
  have z3' : w1.cell? ⟨w.heap.size + 1, 3, none⟩ = some (.int .u32 0) := by go_simp
  have z4' : w1.cell? ⟨w.heap.size + 1, 4, none⟩ = some (.int .u32 0) := by go_simp
  have z5' : w1.cell? ⟨w.heap.size + 1, 5, none⟩ = some (.int .i64 0) := by go_simp
  have z6' : w1.cell? ⟨w.heap.size + 1, 6, none⟩ = some (.int .u32 0) := by go_simp
  have z7' : w1.cell? ⟨w.heap.size + 1, 7, none⟩ = some (.int .u32 0) := by go_simp
  all_goals go_wp2
  all_goals exact bodyPost_ret (v := .tuple #[(.agg #[.int .i64 (a).o, .int .i64 (a).l, .int .i64 (a).v, .int .u32 (a).r, .int .u32 (a).f, .int .i64 (a).v2, .int .u32 (a).r2, .int .u32 (a).f2]), .bool true]) (by simp [results, Try.results9, go_sem, z0', z1', z2', z3', z4', z5', z6', z7']) rfl ⟨rfl, (by repeat' (first | with_reducible exact Below.refl _ _ | with_reducible assumption | with_reducible refine Below.alloc ?_ ?_ _ | with_reducible refine Below.setCell ?_ ?_ _ | with_reducible refine Below.drew ?_ | with_reducible refine below_drewN ?_ _ | with_reducible refine Below.trans ?_ (Below.mono (by with_reducible assumption) ?_) | omega | (simp <;> omega)))⟩

theorem act_yes (c0 : Value) (a : AS) (A : Option Addr) (m cp : Nat) (w : World) :
    Calls Try.prog 9 #[(.agg #[c0, .nilFunc, .int .i64 (a).o, .int .i64 (a).l, .int .i64 (a).v, .int .u32 (a).r, .int .u32 (a).f, .int .i64 (a).v2, .int .u32 (a).r2, .int .u32 (a).f2, .slice A m cp])] w fun e w' => e = .returned (.tuple #[(.agg #[.int .i64 (a).o, .int .i64 (a).l, .int .i64 (a).v, .int .u32 (a).r, .int .u32 (a).f, .int .i64 (a).v2, .int .u32 (a).r2, .int .u32 (a).f2]), .bool false]) ∧ Below w.heap.size w w' := by
  go_enter Try.func9, Try.ntmps9
  go_wp2_with fail
  go_region_held3 (fun w' => w'.cell? ⟨w.heap.size, 0, none⟩ = some (c0) ∧ w'.cell? ⟨w.heap.size, 1, none⟩ = some (.nilFunc) ∧ w'.cell? ⟨w.heap.size, 2, none⟩ = some (.int .i64 a.o) ∧ w'.cell? ⟨w.heap.size, 3, none⟩ = some (.int .i64 a.l) ∧ w'.cell? ⟨w.heap.size, 4, none⟩ = some (.int .i64 a.v) ∧ w'.cell? ⟨w.heap.size, 5, none⟩ = some (.int .u32 a.r) ∧ w'.cell? ⟨w.heap.size, 6, none⟩ = some (.int .u32 a.f) ∧ w'.cell? ⟨w.heap.size, 7, none⟩ = some (.int .i64 a.v2) ∧ w'.cell? ⟨w.heap.size, 8, none⟩ = some (.int .u32 a.r2) ∧ w'.cell? ⟨w.heap.size, 9, none⟩ = some (.int .u32 a.f2) ∧ w'.cell? ⟨w.heap.size, 10, none⟩ = some (.slice A m cp))
    (first | exact ⟨by go_simp, by go_simp, by go_simp, by go_simp, by go_simp, by go_simp, by go_simp, by go_simp, by go_simp, by go_simp, by go_simp⟩ | go_keep)
    (first | (go_at_call 20; refine (done_yes c0 a A m cp _).mono ?_; rintro e w1 ⟨rfl, hb1'⟩; have hb1 : Below _ _ w1 := (by first | with_reducible exact noDrew hb1' | exact hb1'); clear hb1'; obtain ⟨hcc1, hff1⟩ := bcell hb1; have hs1 := hb1.size; (try simp at hs1); have hz1 : w.heap.size < w1.heap.size := (by omega); have hz2 : w.heap.size + 1 < w1.heap.size := (by omega); have z0 : w1.cell? ⟨w.heap.size + 1, 0, none⟩ = some (.int .i64 0) := (by go_simp)))
  have z0' : w1.cell? ⟨w.heap.size + 1, 0, none⟩ = some (.int .i64 0) := by go_simp
  have z1' : w1.cell? ⟨w.heap.size + 1, 1, none⟩ = some (.int .i64 0) := by go_simp
  have z2' : w1.cell? ⟨w.heap.size + 1, 2, none⟩ = some (.int .i64 0) := by go_simp
  have z3' : w1.cell? ⟨w.heap.size + 1, 3, none⟩ = some (.int .u32 0) := by go_simp
  have z4' : w1.cell? ⟨w.heap.size + 1, 4, none⟩ = some (.int .u32 0) := by go_simp
  have z5' : w1.cell? ⟨w.heap.size + 1, 5, none⟩ = some (.int .i64 0) := by go_simp
  have z6' : w1.cell? ⟨w.heap.size + 1, 6, none⟩ = some (.int .u32 0) := by go_simp
  have z7' : w1.cell? ⟨w.heap.size + 1, 7, none⟩ = some (.int .u32 0) := by go_simp
  all_goals go_wp2
  all_goals exact bodyPost_ret (v := .tuple #[(.agg #[.int .i64 (a).o, .int .i64 (a).l, .int .i64 (a).v, .int .u32 (a).r, .int .u32 (a).f, .int .i64 (a).v2, .int .u32 (a).r2, .int .u32 (a).f2]), .bool false]) (by simp [results, Try.results9, go_sem, z0', z1', z2', z3', z4', z5', z6', z7']) rfl ⟨rfl, (by repeat' (first | with_reducible exact Below.refl _ _ | with_reducible assumption | with_reducible refine Below.alloc ?_ ?_ _ | with_reducible refine Below.setCell ?_ ?_ _ | with_reducible refine Below.drew ?_ | with_reducible refine below_drewN ?_ _ | with_reducible refine Below.trans ?_ (Below.mono (by with_reducible assumption) ?_) | omega | (simp <;> omega)))⟩
end Go.Proofs.Ytfldjbojonbmpaa
