/- Acts and results. -/
import Derived.Test.YtnnmenmifphadaaGreatDoorProg
import Derived.WalkSpells
import Derived.WalkLawsBesides
import Derived.BigQuiet
import Derived.Deep.RegionHeld3
import Derived.Laws.EntriesVeiled
import Derived.Test.YtnnmenmifphadaaGreatDoorU05
set_option linter.unusedSimpArgs false
set_option linter.unusedVariables false
namespace Go.Proofs.YtnnmenmifphadaaGreatDoor
open Go.RowKit
structure GS where
 v : Int
 r : Int
 f : Int
 k : Bool
structure AS where
 o : Int
 l : Int
 v : Int
 r : Int
 f : Int
 v2 : Int
 r2 : Int
 f2 : Int
abbrev acV (x : AS) : Value := .agg #[.int .i64 x.o, .int .i64 x.l, .int .i64 x.v, .int .u32 x.r, .int .u32 x.f, .int .i64 x.v2, .int .u32 x.r2, .int .u32 x.f2]
def A0 : AS := ⟨0, 0, 0, 0, 0, 0, 0, 0⟩
def G0 : GS := ⟨0, 0, 0, false⟩
def gotc (g : GS) : List Value := [.int .i64 g.v, .int .u32 g.r, .int .u32 g.f, .bool g.k]
theorem gotc_len (g : GS) : (gotc g).length = 4 := rfl
def CodeT (T : TypeId) : Prop := (∀ p w, (binOp .eql 71 (.iface T p) .nilIface).run Tryz.prog w = .ok (.bool false) w) ∧ (∀ p w, (nilAhead 400 T p "Next").run Tryz.prog w = .ok (some false) w) ∧ (∀ p w, (binOp .neq 71 (.iface T p) .nilIface).run Tryz.prog w = .ok (.bool true) w)
theorem codeT_row : CodeT 80 := ⟨fun p w => by kernel_rfl, fun p w => by kernel_rfl, fun p w => by kernel_rfl⟩
theorem told_go (T : TypeId) (p c0 nx0 : Value) (a0 a : AS) (A : Option Addr) (m cp : Nat) (w : World) (hT : CodeT T) :
  Calls Tryz.prog 91 #[(.agg #[c0, nx0, .int .i64 (a0).o, .int .i64 (a0).l, .int .i64 (a0).v, .int .u32 (a0).r, .int .u32 (a0).f, .int .i64 (a0).v2, .int .u32 (a0).r2, .int .u32 (a0).f2, .slice A m cp]), .iface T p, (acV a), .bool false] w (Ret (.agg #[.iface T p, (.func (Fn.method "Next") #[.iface T p] #[]), .int .i64 (a).o, .int .i64 (a).l, .int .i64 (a).v, .int .u32 (a).r, .int .u32 (a).f, .int .i64 (a).v2, .int .u32 (a).r2, .int .u32 (a).f2, .slice A m cp]) w) := by
 obtain ⟨h1, h2, _⟩ := hT
 go_enter Tryz.func91, Tryz.ntmps91
 go_wp2_with fail
 go_region
 all_goals go_wp2
 all_goals exact bodyPost_ret (v := (.agg #[.iface T p, (.func (Fn.method "Next") #[.iface T p] #[]), .int .i64 (a).o, .int .i64 (a).l, .int .i64 (a).v, .int .u32 (a).r, .int .u32 (a).f, .int .i64 (a).v2, .int .u32 (a).r2, .int .u32 (a).f2, .slice A m cp])) (by simp [results, Tryz.results91, go_sem]) rfl ⟨rfl, ab0⟩
theorem told_done (T : TypeId) (p c0 nx0 : Value) (a0 a : AS) (A : Option Addr) (m cp : Nat) (w : World) (hT : CodeT T) :
  Calls Tryz.prog 91 #[(.agg #[c0, nx0, .int .i64 (a0).o, .int .i64 (a0).l, .int .i64 (a0).v, .int .u32 (a0).r, .int .u32 (a0).f, .int .i64 (a0).v2, .int .u32 (a0).r2, .int .u32 (a0).f2, .slice A m cp]), .iface T p, (acV a), .bool true] w (Ret (.agg #[.iface T p, .nilFunc, .int .i64 (A0).o, .int .i64 (A0).l, .int .i64 (A0).v, .int .u32 (A0).r, .int .u32 (A0).f, .int .i64 (A0).v2, .int .u32 (A0).r2, .int .u32 (A0).f2, .slice A m cp]) w) := by
 obtain ⟨h1, h2, _⟩ := hT
 go_enter Tryz.func91, Tryz.ntmps91
 go_wp2_with fail
 go_region
 all_goals go_wp2
 all_goals exact bodyPost_ret (v := (.agg #[.iface T p, .nilFunc, .int .i64 (A0).o, .int .i64 (A0).l, .int .i64 (A0).v, .int .u32 (A0).r, .int .u32 (A0).f, .int .i64 (A0).v2, .int .u32 (A0).r2, .int .u32 (A0).f2, .slice A m cp])) (by simp [results, Tryz.results91, go_sem, A0]) rfl ⟨rfl, ab0⟩
theorem fn_eq (T : TypeId) (p : Value) (w : World) : (binOp .eql 72 (.func (Fn.method "Next") #[.iface T p] #[]) .nilFunc).run Tryz.prog w = .ok (.bool false) w := by kernel_rfl
theorem nilfn_eq (w : World) : (binOp .eql 72 .nilFunc .nilFunc).run Tryz.prog w = .ok (.bool true) w := by kernel_rfl
theorem done_no (T : TypeId) (p c0 : Value) (a0 : AS) (A : Option Addr) (m cp : Nat) (w : World) :
  Calls Tryz.prog 41 #[(.agg #[c0, (.func (Fn.method "Next") #[.iface T p] #[]), .int .i64 (a0).o, .int .i64 (a0).l, .int .i64 (a0).v, .int .u32 (a0).r, .int .u32 (a0).f, .int .i64 (a0).v2, .int .u32 (a0).r2, .int .u32 (a0).f2, .slice A m cp])] w (Ret (.bool false) w) := by
 have hf1 := fn_eq
 have hf2 := nilfn_eq
 go_enter Tryz.func41, Tryz.ntmps41
 go_wp2
 go_ret
 exact ⟨rfl, ab0⟩
theorem done_yes (c0 : Value) (a0 : AS) (A : Option Addr) (m cp : Nat) (w : World) :
  Calls Tryz.prog 41 #[(.agg #[c0, .nilFunc, .int .i64 (a0).o, .int .i64 (a0).l, .int .i64 (a0).v, .int .u32 (a0).r, .int .u32 (a0).f, .int .i64 (a0).v2, .int .u32 (a0).r2, .int .u32 (a0).f2, .slice A m cp])] w (Ret (.bool true) w) := by
 have hf1 := fn_eq
 have hf2 := nilfn_eq
 go_enter Tryz.func41, Tryz.ntmps41
 go_wp2
 go_ret
 exact ⟨rfl, ab0⟩
theorem clip_any (A : Option Addr) (m cp : Nat) (w : World) (h : m ≤ cp) :
  Calls Tryz.prog 114 #[.slice A m cp] w fun e w' => e = .returned (.slice A m m) ∧ w = w' := by
 go_enter Tryz.func114, Tryz.ntmps114
 go_wp2
 all_goals go_ret
 all_goals exact ⟨rfl, rfl⟩
theorem act_no (T : TypeId) (p c0 : Value) (a : AS) (A : Option Addr) (m cp : Nat) (w : World) :
  Calls Tryz.prog 18 #[(.agg #[c0, (.func (Fn.method "Next") #[.iface T p] #[]), .int .i64 (a).o, .int .i64 (a).l, .int .i64 (a).v, .int .u32 (a).r, .int .u32 (a).f, .int .i64 (a).v2, .int .u32 (a).r2, .int .u32 (a).f2, .slice A m cp])] w (Ret (.tuple #[(acV a), .bool true]) w) := by
 go_enter Tryz.func18, Tryz.ntmps18
 go_wp2_with fail
 go_region_held3 (fun w' => w'.cell? ⟨w.heap.size, 0, none⟩ = some (c0) ∧ w'.cell? ⟨w.heap.size, 1, none⟩ = some ((.func (Fn.method "Next") #[.iface T p] #[])) ∧ w'.cell? ⟨w.heap.size, 2, none⟩ = some (.int .i64 a.o) ∧ w'.cell? ⟨w.heap.size, 3, none⟩ = some (.int .i64 a.l) ∧ w'.cell? ⟨w.heap.size, 4, none⟩ = some (.int .i64 a.v) ∧ w'.cell? ⟨w.heap.size, 5, none⟩ = some (.int .u32 a.r) ∧ w'.cell? ⟨w.heap.size, 6, none⟩ = some (.int .u32 a.f) ∧ w'.cell? ⟨w.heap.size, 7, none⟩ = some (.int .i64 a.v2) ∧ w'.cell? ⟨w.heap.size, 8, none⟩ = some (.int .u32 a.r2) ∧ w'.cell? ⟨w.heap.size, 9, none⟩ = some (.int .u32 a.f2) ∧ w'.cell? ⟨w.heap.size, 10, none⟩ = some (.slice A m cp))
  (first | exact ⟨by go_simp, by go_simp, by go_simp, by go_simp, by go_simp, by go_simp, by go_simp, by go_simp, by go_simp, by go_simp, by go_simp⟩ | go_keep)
  (first | (go_at_call 41; refine (done_no T p c0 a A m cp _).mono ?_; rintro e w1 ⟨rfl, hb1'⟩; have hb1 : Below _ _ w1 := (by first | with_reducible exact noDrew hb1' | exact hb1'); clear hb1'; obtain ⟨hcc1, hff1, hs1⟩ := bC hb1; (try simp at hs1); have hz1 : w.heap.size < w1.heap.size := oM; have hz2 : w.heap.size + 1 < w1.heap.size := oM; have z0 : w1.cell? ⟨w.heap.size + 1, 0, none⟩ = some (.int .i64 0) := (by go_simp)))
 have z0' : w1.cell? ⟨w.heap.size + 1, 0, none⟩ = some (.int .i64 0) := by go_simp
 have z1' : w1.cell? ⟨w.heap.size + 1, 1, none⟩ = some (.int .i64 0) := by go_simp
 have z2' : w1.cell? ⟨w.heap.size + 1, 2, none⟩ = some (.int .i64 0) := by go_simp
 have z3' : w1.cell? ⟨w.heap.size + 1, 3, none⟩ = some (.int .u32 0) := by go_simp
 have z4' : w1.cell? ⟨w.heap.size + 1, 4, none⟩ = some (.int .u32 0) := by go_simp
 have z5' : w1.cell? ⟨w.heap.size + 1, 5, none⟩ = some (.int .i64 0) := by go_simp
 have z6' : w1.cell? ⟨w.heap.size + 1, 6, none⟩ = some (.int .u32 0) := by go_simp
 have z7' : w1.cell? ⟨w.heap.size + 1, 7, none⟩ = some (.int .u32 0) := by go_simp
 all_goals go_wp2
 all_goals exact bodyPost_ret (v := .tuple #[(.agg #[.int .i64 (a).o, .int .i64 (a).l, .int .i64 (a).v, .int .u32 (a).r, .int .u32 (a).f, .int .i64 (a).v2, .int .u32 (a).r2, .int .u32 (a).f2]), .bool true]) (by simp [results, Tryz.results18, go_sem, z0', z1', z2', z3', z4', z5', z6', z7']) rfl ⟨rfl, ab0⟩
theorem act_yes (c0 : Value) (a : AS) (A : Option Addr) (m cp : Nat) (w : World) :
  Calls Tryz.prog 18 #[(.agg #[c0, .nilFunc, .int .i64 (a).o, .int .i64 (a).l, .int .i64 (a).v, .int .u32 (a).r, .int .u32 (a).f, .int .i64 (a).v2, .int .u32 (a).r2, .int .u32 (a).f2, .slice A m cp])] w (Ret (.tuple #[(acV a), .bool false]) w) := by
 go_enter Tryz.func18, Tryz.ntmps18
 go_wp2_with fail
 go_region_held3 (fun w' => w'.cell? ⟨w.heap.size, 0, none⟩ = some (c0) ∧ w'.cell? ⟨w.heap.size, 1, none⟩ = some (.nilFunc) ∧ w'.cell? ⟨w.heap.size, 2, none⟩ = some (.int .i64 a.o) ∧ w'.cell? ⟨w.heap.size, 3, none⟩ = some (.int .i64 a.l) ∧ w'.cell? ⟨w.heap.size, 4, none⟩ = some (.int .i64 a.v) ∧ w'.cell? ⟨w.heap.size, 5, none⟩ = some (.int .u32 a.r) ∧ w'.cell? ⟨w.heap.size, 6, none⟩ = some (.int .u32 a.f) ∧ w'.cell? ⟨w.heap.size, 7, none⟩ = some (.int .i64 a.v2) ∧ w'.cell? ⟨w.heap.size, 8, none⟩ = some (.int .u32 a.r2) ∧ w'.cell? ⟨w.heap.size, 9, none⟩ = some (.int .u32 a.f2) ∧ w'.cell? ⟨w.heap.size, 10, none⟩ = some (.slice A m cp))
  (first | exact ⟨by go_simp, by go_simp, by go_simp, by go_simp, by go_simp, by go_simp, by go_simp, by go_simp, by go_simp, by go_simp, by go_simp⟩ | go_keep)
  (first | (go_at_call 41; refine (done_yes c0 a A m cp _).mono ?_; rintro e w1 ⟨rfl, hb1'⟩; have hb1 : Below _ _ w1 := (by first | with_reducible exact noDrew hb1' | exact hb1'); clear hb1'; obtain ⟨hcc1, hff1, hs1⟩ := bC hb1; (try simp at hs1); have hz1 : w.heap.size < w1.heap.size := oM; have hz2 : w.heap.size + 1 < w1.heap.size := oM; have z0 : w1.cell? ⟨w.heap.size + 1, 0, none⟩ = some (.int .i64 0) := (by go_simp)))
 have z0' : w1.cell? ⟨w.heap.size + 1, 0, none⟩ = some (.int .i64 0) := by go_simp
 have z1' : w1.cell? ⟨w.heap.size + 1, 1, none⟩ = some (.int .i64 0) := by go_simp
 have z2' : w1.cell? ⟨w.heap.size + 1, 2, none⟩ = some (.int .i64 0) := by go_simp
 have z3' : w1.cell? ⟨w.heap.size + 1, 3, none⟩ = some (.int .u32 0) := by go_simp
 have z4' : w1.cell? ⟨w.heap.size + 1, 4, none⟩ = some (.int .u32 0) := by go_simp
 have z5' : w1.cell? ⟨w.heap.size + 1, 5, none⟩ = some (.int .i64 0) := by go_simp
 have z6' : w1.cell? ⟨w.heap.size + 1, 6, none⟩ = some (.int .u32 0) := by go_simp
 have z7' : w1.cell? ⟨w.heap.size + 1, 7, none⟩ = some (.int .u32 0) := by go_simp
 all_goals go_wp2
 all_goals exact bodyPost_ret (v := .tuple #[(.agg #[.int .i64 (a).o, .int .i64 (a).l, .int .i64 (a).v, .int .u32 (a).r, .int .u32 (a).f, .int .i64 (a).v2, .int .u32 (a).r2, .int .u32 (a).f2]), .bool false]) (by simp [results, Tryz.results18, go_sem, z0', z1', z2', z3', z4', z5', z6', z7']) rfl ⟨rfl, ab0⟩
end Go.Proofs.YtnnmenmifphadaaGreatDoor
