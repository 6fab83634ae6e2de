/- Acts and results. -/
import Derived.Test.YtapjfhbonfehpaaGreatDoorProg
import Derived.WalkSpells
import Derived.WalkLawsBesides
import Derived.BigQuiet
import Derived.Deep.RegionHeld3
import Derived.Laws.EntriesVeiled
import Derived.Test.YtapjfhbonfehpaaGreatDoorV04
import Derived.Test.YtapjfhbonfehpaaGreatDoorV09
set_option linter.unusedSimpArgs false
set_option linter.unusedVariables false
set_option maxRecDepth 100000
set_option maxHeartbeats 40000000
namespace Go.Proofs.YtapjfhbonfehpaaGreatDoor
open Go.RowKit
theorem DC : (Tryz.prog.info? 252).map (fun i => (i.zero, i.size, i.bytes)) = some (some (.agg #[.int .i64 0, .int .i64 0, .int .u32 0, .int .u32 0]), 4, 24) := by kernel_rfl
theorem Mb (A : Option Addr) (n cap : Nat) (xs : List Value) (w : World) (hr : Rd w w.heap.size 4 A n xs) (hA : A = none → n = 0) (h1 : ∀ u ∈ xs, u.oneCell' = true) (hn : n ≤ 1000000) :
  Calls Tryz.prog 148 #[.slice A n cap] w fun e w' => ∃ A' cap', e = .returned (.slice A' n cap') ∧ w'.ownsRow w.heap.size 252 4 (.slice A' n cap') n xs ∧ Below w.heap.size w w' := by
 obtain ⟨i0, hi0, ki, jz1, kh⟩ := info_parts DC;have hi := aa hi0;have fF := aa ki;have fw := aa jz1;have fD := aa kh;clear hi0 ki jz1 kh;have Hr := aa hr;have H1 := aa h1;cases A with
 | none =>
  obtain rfl : n = 0 := hA rfl;have hx : xs = [] := List.eq_nil_of_length_eq_zero (by simpa using hr.1);subst hx;have heq : ∀ W : World, (binOp .eql 118 (.slice none 0 cap) (.slice none 0 0)).run Tryz.prog W = .ok (.bool true) W := fun W => by kernel_rfl
  clear hr hA;go_enter Tryz.func148, Tryz.ntmps148;go_wp2_with fail;go_ret;exact ⟨none, 0, rfl, World.ownsRow_nil _ _ _ _, ae⟩
 | some a =>
  have heq : ∀ W : World, (binOp .eql 118 (.slice (some a) n cap) (.slice none 0 0)).run Tryz.prog W = .ok (.bool false) W := fun W => by kernel_rfl
  clear hr hA h1;go_enter Tryz.func148, Tryz.ntmps148;go_wp2_with (first
   | (at_builtin; refine aK rfl _ _ 118 rfl w.heap.size 252 i0 _ 4 24 Tryz.underlying118 hi.out fF.out fw.out fD.out rfl dM (.slice (some ⟨w.heap.size, 0, none⟩) 0 0) 0 [] rfl (World.ownsRow_made w #[] 0 (Nat.le_refl _) (Nat.zero_le _) rfl) (some a) n cap xs rfl w.heap.size (Hr.out.below ae) H1.out (by unfold maxLen; omega) oM sM w.heap.size w ae (Nat.le_refl _) ?_; intro v' w6 aW hb6 lL))
  rw [Nat.zero_add, List.nil_append] at aW;obtain ⟨A', cap', rfl, hcp, hbl⟩ := aX aW;go_wp2_with fail;go_ret;exact ⟨A', cap', rfl, aW, ae⟩
end Go.Proofs.YtapjfhbonfehpaaGreatDoor
namespace Go.Proofs.YtapjfhbonfehpaaGreatDoor
open Go.RowKit
structure GS where
 v : Int
 r : Int
 f : Int
 k : Bool
structure AS where
 o : Int
 l : Int
 v : Int
 r : Int
 f : Int
 v2 : Int
 r2 : Int
 f2 : Int
abbrev Gf (x : AS) : Value := .agg #[.int .i64 x.o, .int .i64 x.l, .int .i64 x.v, .int .u32 x.r, .int .u32 x.f, .int .i64 x.v2, .int .u32 x.r2, .int .u32 x.f2]
def A0 : AS := ⟨0, 0, 0, 0, 0, 0, 0, 0⟩
def G0 : GS := ⟨0, 0, 0, false⟩
def uw (g : GS) : List Value := [.int .i64 g.v, .int .u32 g.r, .int .u32 g.f, .bool g.k]
def uT (T : TypeId) : Prop := (∀ p w, (binOp .eql 84 (.iface T p) .nilIface).run Tryz.prog w = .ok (.bool false) w) ∧ (∀ p w, (nilAhead 367 T p "Next").run Tryz.prog w = .ok (some false) w) ∧ (∀ p w, (binOp .neq 84 (.iface T p) .nilIface).run Tryz.prog w = .ok (.bool true) w)
theorem De (T : TypeId) (p c0 nx0 : Value) (a0 a : AS) (A : Option Addr) (m cp : Nat) (w : World) (hT : uT T) :
  Calls Tryz.prog 78 #[(.agg #[c0, nx0, .int .i64 (a0).o, .int .i64 (a0).l, .int .i64 (a0).v, .int .u32 (a0).r, .int .u32 (a0).f, .int .i64 (a0).v2, .int .u32 (a0).r2, .int .u32 (a0).f2, .slice A m cp]), .iface T p, (Gf a), .bool false] w (cd (.agg #[.iface T p, (.func (Fn.method "Next") #[.iface T p] #[]), .int .i64 (a).o, .int .i64 (a).l, .int .i64 (a).v, .int .u32 (a).r, .int .u32 (a).f, .int .i64 (a).v2, .int .u32 (a).r2, .int .u32 (a).f2, .slice A m cp]) w) := by
 obtain ⟨h1, h2, _⟩ := hT;go_enter Tryz.func78, Tryz.ntmps78;go_wp2_with fail
 go_region
 all_goals go_wp2
 all_goals exact bodyPost_ret (v := (.agg #[.iface T p, (.func (Fn.method "Next") #[.iface T p] #[]), .int .i64 (a).o, .int .i64 (a).l, .int .i64 (a).v, .int .u32 (a).r, .int .u32 (a).f, .int .i64 (a).v2, .int .u32 (a).r2, .int .u32 (a).f2, .slice A m cp])) (by simp [results, Tryz.results78, go_sem]) rfl ⟨rfl, ae⟩
theorem vY (T : TypeId) (p c0 nx0 : Value) (a0 a : AS) (A : Option Addr) (m cp : Nat) (w : World) (hT : uT T) :
  Calls Tryz.prog 78 #[(.agg #[c0, nx0, .int .i64 (a0).o, .int .i64 (a0).l, .int .i64 (a0).v, .int .u32 (a0).r, .int .u32 (a0).f, .int .i64 (a0).v2, .int .u32 (a0).r2, .int .u32 (a0).f2, .slice A m cp]), .iface T p, (Gf a), .bool true] w (cd (.agg #[.iface T p, .nilFunc, .int .i64 (A0).o, .int .i64 (A0).l, .int .i64 (A0).v, .int .u32 (A0).r, .int .u32 (A0).f, .int .i64 (A0).v2, .int .u32 (A0).r2, .int .u32 (A0).f2, .slice A m cp]) w) := by
 obtain ⟨h1, h2, _⟩ := hT;go_enter Tryz.func78, Tryz.ntmps78;go_wp2_with fail
 go_region
 all_goals go_wp2
 all_goals exact bodyPost_ret (v := (.agg #[.iface T p, .nilFunc, .int .i64 (A0).o, .int .i64 (A0).l, .int .i64 (A0).v, .int .u32 (A0).r, .int .u32 (A0).f, .int .i64 (A0).v2, .int .u32 (A0).r2, .int .u32 (A0).f2, .slice A m cp])) (by simp [results, Tryz.results78, go_sem, A0]) rfl ⟨rfl, ae⟩
theorem Nl (T : TypeId) (p : Value) (w : World) : (binOp .eql 152 (.func (Fn.method "Next") #[.iface T p] #[]) .nilFunc).run Tryz.prog w = .ok (.bool false) w := by kernel_rfl
theorem zI (w : World) : (binOp .eql 152 .nilFunc .nilFunc).run Tryz.prog w = .ok (.bool true) w := by kernel_rfl
theorem sH (T : TypeId) (p c0 : Value) (a0 : AS) (A : Option Addr) (m cp : Nat) (w : World) :
  Calls Tryz.prog 69 #[(.agg #[c0, (.func (Fn.method "Next") #[.iface T p] #[]), .int .i64 (a0).o, .int .i64 (a0).l, .int .i64 (a0).v, .int .u32 (a0).r, .int .u32 (a0).f, .int .i64 (a0).v2, .int .u32 (a0).r2, .int .u32 (a0).f2, .slice A m cp])] w (cd (.bool false) w) := by
 have hf1 := Nl;have hf2 := zI;go_enter Tryz.func69, Tryz.ntmps69
 go_wp2
 go_ret;exact ⟨rfl, ae⟩
theorem Jy (c0 : Value) (a0 : AS) (A : Option Addr) (m cp : Nat) (w : World) :
  Calls Tryz.prog 69 #[(.agg #[c0, .nilFunc, .int .i64 (a0).o, .int .i64 (a0).l, .int .i64 (a0).v, .int .u32 (a0).r, .int .u32 (a0).f, .int .i64 (a0).v2, .int .u32 (a0).r2, .int .u32 (a0).f2, .slice A m cp])] w (cd (.bool true) w) := by
 have hf1 := Nl;have hf2 := zI;go_enter Tryz.func69, Tryz.ntmps69
 go_wp2
 go_ret;exact ⟨rfl, ae⟩
theorem JD (A : Option Addr) (m cp : Nat) (w : World) (h : m ≤ cp) :
  Calls Tryz.prog 100 #[.slice A m cp] w fun e w' => e = .returned (.slice A m m) ∧ w = w' := by
 go_enter Tryz.func100, Tryz.ntmps100
 go_wp2
 all_goals go_ret
 all_goals exact ⟨rfl, rfl⟩
theorem PE (T : TypeId) (p c0 : Value) (a : AS) (A : Option Addr) (m cp : Nat) (w : World) :
  Calls Tryz.prog 87 #[(.agg #[c0, (.func (Fn.method "Next") #[.iface T p] #[]), .int .i64 (a).o, .int .i64 (a).l, .int .i64 (a).v, .int .u32 (a).r, .int .u32 (a).f, .int .i64 (a).v2, .int .u32 (a).r2, .int .u32 (a).f2, .slice A m cp])] w (cd (.tuple #[(Gf a), .bool true]) w) := by
 go_enter Tryz.func87, Tryz.ntmps87;go_wp2_with fail
 go_region_held3 (fun w' => w'.cell? ⟨w.heap.size, 0, none⟩ = some (c0) ∧ w'.cell? ⟨w.heap.size, 1, none⟩ = some ((.func (Fn.method "Next") #[.iface T p] #[])) ∧ w'.cell? ⟨w.heap.size, 2, none⟩ = some (.int .i64 a.o) ∧ w'.cell? ⟨w.heap.size, 3, none⟩ = some (.int .i64 a.l) ∧ w'.cell? ⟨w.heap.size, 4, none⟩ = some (.int .i64 a.v) ∧ w'.cell? ⟨w.heap.size, 5, none⟩ = some (.int .u32 a.r) ∧ w'.cell? ⟨w.heap.size, 6, none⟩ = some (.int .u32 a.f) ∧ w'.cell? ⟨w.heap.size, 7, none⟩ = some (.int .i64 a.v2) ∧ w'.cell? ⟨w.heap.size, 8, none⟩ = some (.int .u32 a.r2) ∧ w'.cell? ⟨w.heap.size, 9, none⟩ = some (.int .u32 a.f2) ∧ w'.cell? ⟨w.heap.size, 10, none⟩ = some (.slice A m cp))
  (first | exact ⟨by go_simp, by go_simp, by go_simp, by go_simp, by go_simp, by go_simp, by go_simp, by go_simp, by go_simp, by go_simp, by go_simp⟩ | go_keep)
  (first | (go_at_call 69; refine (sH T p c0 a A m cp _).mono ?_; rintro e w1 ⟨rfl, i7⟩; have hb1 : Below _ _ w1 := si; clear i7; obtain ⟨ar, aA, hs1⟩ := bC hb1; (try simp at hs1); have hz1 := zL w.heap.size w1; have hz2 := zL (w.heap.size + 1) w1; have z0 : w1.cell? ⟨w.heap.size + 1, 0, none⟩ = some (.int .i64 0) := (by go_simp)))
 have z0' := cI w1 (w.heap.size + 1) 0 0;have z1' := cI w1 (w.heap.size + 1) 1 0;have z2' := cI w1 (w.heap.size + 1) 2 0;have z3' := cE w1 (w.heap.size + 1) 3 (.int .u32 0);have z4' := cE w1 (w.heap.size + 1) 4 (.int .u32 0);have z5' := cI w1 (w.heap.size + 1) 5 0;have z6' := cE w1 (w.heap.size + 1) 6 (.int .u32 0);have z7' := cE w1 (w.heap.size + 1) 7 (.int .u32 0);all_goals go_wp2
 all_goals exact bodyPost_ret (v := .tuple #[(.agg #[.int .i64 (a).o, .int .i64 (a).l, .int .i64 (a).v, .int .u32 (a).r, .int .u32 (a).f, .int .i64 (a).v2, .int .u32 (a).r2, .int .u32 (a).f2]), .bool true]) (by simp [results, Tryz.results87, go_sem, z0', z1', z2', z3', z4', z5', z6', z7']) rfl ⟨rfl, ae⟩
end Go.Proofs.YtapjfhbonfehpaaGreatDoor
