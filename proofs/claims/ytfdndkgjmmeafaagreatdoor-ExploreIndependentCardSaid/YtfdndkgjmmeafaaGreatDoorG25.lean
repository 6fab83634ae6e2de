/- slices.Clone of several kinds. -/
import Derived.Deep.RegionHeld
import Derived.Test.YtfdndkgjmmeafaaGreatDoorG04
import Derived.Test.YtfdndkgjmmeafaaGreatDoorG24
namespace Go.Proofs.YtfdndkgjmmeafaaGreatDoor
set_option linter.unusedSimpArgs false
set_option linter.unusedVariables false
open Go.RowKit
theorem info_cW : (Tryz.prog.info? 25).map (fun i => (i.zero, i.size, i.bytes)) = some (some (.agg #[.int .i64 0, .int .u32 0, .int .u32 0]), 3, 16) := by kernel_rfl
set_option maxRecDepth 100000 in
theorem clone_W (A : Option Addr) (n cap : Nat) (xs : List Value) (w : World) (hr : Rd w w.heap.size 3 A n xs) (hA : A = none → n = 0) (h1 : ∀ u ∈ xs, u.oneCell' = true) (hn : n ≤ 1000000) :
    Calls Tryz.prog 31 #[.slice A n cap] w fun e w' => ∃ A' cap', e = .returned (.slice A' n cap') ∧ w'.ownsRow w.heap.size 25 3 (.slice A' n cap') n xs ∧ Below w.heap.size w w' := by
  obtain ⟨i0, hi0, jz0, jz1, jz2⟩ := info_parts info_cW
  have hi := hide hi0
  have iz0 := hide jz0
  have iz1 := hide jz1
  have iz2 := hide jz2
  clear hi0 jz0 jz1 jz2
  have Hr := hide hr
  have H1 := hide h1
  cases A with
  | none =>
    obtain rfl : n = 0 := hA rfl
    have hx : xs = [] := List.eq_nil_of_length_eq_zero (by simpa using hr.1)
    subst hx
    have heq : ∀ W : World, (binOp .eql 35 (.slice none 0 cap) (.slice none 0 0)).run Tryz.prog W = .ok (.bool true) W := fun W => by kernel_rfl
    clear hr hA
    go_enter Tryz.func31, Tryz.ntmps31
    go_wp2_with fail
    go_ret
    exact ⟨none, 0, rfl, World.ownsRow_nil _ _ _ _, ab0⟩
  | some a =>
    have heq : ∀ W : World, (binOp .eql 35 (.slice (some a) n cap) (.slice none 0 0)).run Tryz.prog W = .ok (.bool false) W := fun W => by kernel_rfl
    clear hr hA h1
    go_enter Tryz.func31, Tryz.ntmps31
    go_wp2_with (first
      | (at_builtin; refine wpList_append_rd rfl _ _ 35 rfl w.heap.size 25 i0 _ 3 16 Tryz.underlying35 hi.out iz0.out iz1.out iz2.out rfl (by decide) (.slice (some ⟨w.heap.size, 0, none⟩) 0 0) 0 [] rfl (World.ownsRow_made w #[] 0 (Nat.le_refl _) (Nat.zero_le _) rfl) (some a) n cap xs rfl w.heap.size (Hr.out.below ab0) H1.out (by unfold maxLen; omega) (by omega) (by simp) w.heap.size w ab0 (Nat.le_refl _) ?_; intro v' w6 hown6 hb6 hsz6))
    rw [Nat.zero_add, List.nil_append] at hown6
    obtain ⟨A', cap', rfl, hcp, hbl⟩ := own_slice hown6
    go_wp2_with fail
    go_ret
    exact ⟨A', cap', rfl, hown6, ab0⟩
theorem info_cI : (Tryz.prog.info? 3).map (fun i => (i.zero, i.size, i.bytes)) = some (some (.int .i64 0), 1, 8) := by kernel_rfl
set_option maxRecDepth 100000 in
theorem clone_I (A : Option Addr) (n cap : Nat) (xs : List Value) (w : World) (hr : Rd w w.heap.size 1 A n xs) (hA : A = none → n = 0) (h1 : ∀ u ∈ xs, u.oneCell' = true) (hn : n ≤ 1000000) :
    Calls Tryz.prog 106 #[.slice A n cap] w fun e w' => ∃ A' cap', e = .returned (.slice A' n cap') ∧ w'.ownsRow w.heap.size 3 1 (.slice A' n cap') n xs ∧ Below w.heap.size w w' := by
  obtain ⟨i0, hi0, jz0, jz1, jz2⟩ := info_parts info_cI
  have hi := hide hi0
  have iz0 := hide jz0
  have iz1 := hide jz1
  have iz2 := hide jz2
  clear hi0 jz0 jz1 jz2
  have Hr := hide hr
  have H1 := hide h1
  cases A with
  | none =>
    obtain rfl : n = 0 := hA rfl
    have hx : xs = [] := List.eq_nil_of_length_eq_zero (by simpa using hr.1)
    subst hx
    have heq : ∀ W : World, (binOp .eql 40 (.slice none 0 cap) (.slice none 0 0)).run Tryz.prog W = .ok (.bool true) W := fun W => by kernel_rfl
    clear hr hA
    go_enter Tryz.func106, Tryz.ntmps106
    go_wp2_with fail
    go_ret
    exact ⟨none, 0, rfl, World.ownsRow_nil _ _ _ _, ab0⟩
  | some a =>
    have heq : ∀ W : World, (binOp .eql 40 (.slice (some a) n cap) (.slice none 0 0)).run Tryz.prog W = .ok (.bool false) W := fun W => by kernel_rfl
    clear hr hA h1
    go_enter Tryz.func106, Tryz.ntmps106
    go_wp2_with (first
      | (at_builtin; refine wpList_append_rd rfl _ _ 40 rfl w.heap.size 3 i0 _ 1 8 Tryz.underlying40 hi.out iz0.out iz1.out iz2.out rfl (by decide) (.slice (some ⟨w.heap.size, 0, none⟩) 0 0) 0 [] rfl (World.ownsRow_made w #[] 0 (Nat.le_refl _) (Nat.zero_le _) rfl) (some a) n cap xs rfl w.heap.size (Hr.out.below ab0) H1.out (by unfold maxLen; omega) (by omega) (by simp) w.heap.size w ab0 (Nat.le_refl _) ?_; intro v' w6 hown6 hb6 hsz6))
    rw [Nat.zero_add, List.nil_append] at hown6
    obtain ⟨A', cap', rfl, hcp, hbl⟩ := own_slice hown6
    go_wp2_with fail
    go_ret
    exact ⟨A', cap', rfl, hown6, ab0⟩
theorem info_cL : (Tryz.prog.info? 188).map (fun i => (i.zero, i.size, i.bytes)) = some (some (.agg #[.slice none 0 0, .int .i64 0]), 2, 32) := by kernel_rfl
set_option maxRecDepth 100000 in
theorem clone_L (A : Option Addr) (n cap : Nat) (xs : List Value) (w : World) (hr : Rd w w.heap.size 2 A n xs) (hA : A = none → n = 0) (h1 : ∀ u ∈ xs, u.oneCell' = true) (hn : n ≤ 1000000) :
    Calls Tryz.prog 97 #[.slice A n cap] w fun e w' => ∃ A' cap', e = .returned (.slice A' n cap') ∧ w'.ownsRow w.heap.size 188 2 (.slice A' n cap') n xs ∧ Below w.heap.size w w' := by
  obtain ⟨i0, hi0, jz0, jz1, jz2⟩ := info_parts info_cL
  have hi := hide hi0
  have iz0 := hide jz0
  have iz1 := hide jz1
  have iz2 := hide jz2
  clear hi0 jz0 jz1 jz2
  have Hr := hide hr
  have H1 := hide h1
  cases A with
  | none =>
    obtain rfl : n = 0 := hA rfl
    have hx : xs = [] := List.eq_nil_of_length_eq_zero (by simpa using hr.1)
    subst hx
    have heq : ∀ W : World, (binOp .eql 36 (.slice none 0 cap) (.slice none 0 0)).run Tryz.prog W = .ok (.bool true) W := fun W => by kernel_rfl
    clear hr hA
    go_enter Tryz.func97, Tryz.ntmps97
    go_wp2_with fail
    go_ret
    exact ⟨none, 0, rfl, World.ownsRow_nil _ _ _ _, ab0⟩
  | some a =>
    have heq : ∀ W : World, (binOp .eql 36 (.slice (some a) n cap) (.slice none 0 0)).run Tryz.prog W = .ok (.bool false) W := fun W => by kernel_rfl
    clear hr hA h1
    go_enter Tryz.func97, Tryz.ntmps97
    go_wp2_with (first
      | (at_builtin; refine wpList_append_rd rfl _ _ 36 rfl w.heap.size 188 i0 _ 2 32 Tryz.underlying36 hi.out iz0.out iz1.out iz2.out rfl (by decide) (.slice (some ⟨w.heap.size, 0, none⟩) 0 0) 0 [] rfl (World.ownsRow_made w #[] 0 (Nat.le_refl _) (Nat.zero_le _) rfl) (some a) n cap xs rfl w.heap.size (Hr.out.below ab0) H1.out (by unfold maxLen; omega) (by omega) (by simp) w.heap.size w ab0 (Nat.le_refl _) ?_; intro v' w6 hown6 hb6 hsz6))
    rw [Nat.zero_add, List.nil_append] at hown6
    obtain ⟨A', cap', rfl, hcp, hbl⟩ := own_slice hown6
    go_wp2_with fail
    go_ret
    exact ⟨A', cap', rfl, hown6, ab0⟩
end Go.Proofs.YtfdndkgjmmeafaaGreatDoor

namespace Go.Proofs.YtfdndkgjmmeafaaGreatDoor
set_option linter.unusedSimpArgs false
set_option linter.unusedVariables false
open Go.RowKit Go.Maps
/-- A line's log: its stores, the length that has been persisted. -/
structure LogV where
  A : Option Addr
  cap : Nat
  l : List (Int × W3)
  kept : Int
def storec (p : Int × W3) : List Value := [.int .i64 p.1, .int .i64 p.2.v, .int .u32 p.2.r, .int .u32 p.2.f]
def logc (g : LogV) : List Value := [.slice g.A g.l.length g.cap, .int .i64 g.kept]
theorem logc_len (g : LogV) : (logc g).length = 2 := rfl
def LogV.R (w : World) (g : LogV) : Prop := g.l.length ≤ g.cap ∧ (g.A = none → g.l.length = 0) ∧ Rd w w.heap.size 4 g.A g.l.length (g.l.flatMap storec)
/-- The lines: the first words, the logs, the map of what has been asked for. -/
structure LinesV where
  fA : Option Addr
  fc : Nat
  first : List W3
  lA : Option Addr
  lc : Nat
  logs : List LogV
  asks : Option Nat
def LinesV.R (w : World) (m : LinesV) : Prop := (m.first.length ≤ m.fc ∧ (m.fA = none → m.first.length = 0) ∧ Rd w w.heap.size 3 m.fA m.first.length (m.first.flatMap w3c)) ∧ (m.logs.length ≤ m.lc ∧ (m.lA = none → m.logs.length = 0) ∧ Rd w w.heap.size 2 m.lA m.logs.length (m.logs.flatMap logc) ∧ ∀ g ∈ m.logs, g.R w)
theorem LogV.R.below {w w' : World} {g : LogV} (h : g.R w) (hb : Below w.heap.size w w') : g.R w' := ⟨h.1, h.2.1, (h.2.2.below hb).more hb.size⟩
theorem LinesV.R.below {w w' : World} {m : LinesV} (h : m.R w) (hb : Below w.heap.size w w') : m.R w' :=
  ⟨⟨h.1.1, h.1.2.1, (h.1.2.2.below hb).more hb.size⟩, h.2.1, h.2.2.1, (h.2.2.2.1.below hb).more hb.size, fun g hg => (h.2.2.2.2 g hg).below hb⟩
def LinesV.off (C : Nat) (m : LinesV) : Prop := OffC C m.first.length m.fA ∧ OffC C m.logs.length m.lA ∧ ∀ g ∈ m.logs, OffC C g.l.length g.A
theorem LinesV.off_new {w : World} {m : LinesV} {C : Nat} (h : m.R w) (hC : w.heap.size ≤ C) : m.off C :=
  ⟨OffC.new h.1.2.2 hC, OffC.new h.2.2.2.1 hC, fun x hx => OffC.new (h.2.2.2.2 x hx).2.2 hC⟩
theorem LogV.R.set {w : World} {g : LogV} {C o : Nat} (h : g.R w) (hoff : OffC C g.l.length g.A) (x : Value) : g.R (w.setCell ⟨C, o, none⟩ x) := by
  refine ⟨h.1, h.2.1, ?_⟩
  rw [show (w.setCell ⟨C, o, none⟩ x).heap.size = w.heap.size by simp]
  exact Rd.set_off h.2.2 hoff x
theorem LinesV.R.set {w : World} {m : LinesV} {C o : Nat} (h : m.R w) (hoff : m.off C) (x : Value) : m.R (w.setCell ⟨C, o, none⟩ x) := by
  have es : (w.setCell ⟨C, o, none⟩ x).heap.size = w.heap.size := by simp
  refine ⟨⟨h.1.1, h.1.2.1, ?_⟩, h.2.1, h.2.2.1, ?_, fun y hy => (h.2.2.2.2 y hy).set (hoff.2.2 y hy) x⟩
  · rw [es]; exact Rd.set_off h.1.2.2 hoff.1 x
  · rw [es]; exact Rd.set_off h.2.2.2.1 hoff.2.1 x
/-- A cell of a slice is set. -/
theorem Rd.setAt {w : World} {B size n b off i : Nat} {xs : List Value} (h : Rd w B size (some ⟨b, off, none⟩) n xs) (hi : i < xs.length) (u : Value) : Rd (w.setCell ⟨b, off + i, none⟩ u) B size (some ⟨b, off, none⟩) n (xs.set i u) := by
  refine ⟨by rw [List.length_set]; exact h.1, fun hn => ?_⟩
  obtain ⟨b', off', e, hB, hc⟩ := h.2 hn
  injection e with e
  injection e with e1 e2
  subst e1 e2
  refine ⟨b, off, rfl, hB, fun j v hv => ?_⟩
  rw [List.getElem?_set] at hv
  by_cases hj : i = j
  · subst hj
    rw [if_pos rfl, if_pos hi] at hv
    injection hv with hv
    subst hv
    exact World.cell?_setCell_same _ _ _ (hc i _ (List.getElem?_eq_getElem hi))
  · rw [if_neg hj] at hv
    rw [World.cell?_setCell_other _ _ _ _ (by intro e; injection e with _ e; omega)]
    exact hc j v hv
theorem flatMap_set {α β : Type} {s : Nat} {g : α → List β} (hg : ∀ a, (g a).length = s) : ∀ (l : List α) (j i : Nat) (a a' : α) (v : β), l[j]? = some a → i < s → g a' = (g a).set i v → (l.flatMap g).set (j * s + i) v = (l.set j a').flatMap g
  | [], j, i, a, a', v, h, _, _ => by simp at h
  | b :: l, 0, i, a, a', v, h, hi, he => by
    simp only [List.getElem?_cons_zero, Option.some.injEq] at h
    subst h
    simp only [List.flatMap_cons, Nat.zero_mul, Nat.zero_add, List.set_cons_zero]
    rw [List.set_append_left _ _ (by rw [hg]; exact hi), he]
  | b :: l, j + 1, i, a, a', v, h, hi, he => by
    simp only [List.getElem?_cons_succ] at h
    simp only [List.flatMap_cons, List.set_cons_succ]
    rw [List.set_append_right _ _ (by rw [hg, Nat.succ_mul]; omega), hg, show (j + 1) * s + i - s = j * s + i by rw [Nat.succ_mul]; omega, flatMap_set hg l j i a a' v h hi he]
/-- A row of the call's own holds what it holds. -/
theorem own_cells {w : World} {base size n cap g : Nat} {e : TypeId} {xs : List Value} (h : w.ownsRow base e size (.slice (some ⟨g, 0, none⟩) n cap) n xs) : (∀ i v, xs[i]? = some v → w.cell? ⟨g, i, none⟩ = some v) ∧ (∀ o, w.frozen? ⟨g, o, none⟩ = false) := by
  obtain ⟨hl, h⟩ := h
  rcases h with ⟨e1, _⟩ | ⟨g', cap', cur, e1, hb, hg, _, _, _, ht⟩
  · cases e1
  · injection e1 with e1 _ _
    injection e1 with e1
    injection e1 with e1 _
    subst e1
    refine ⟨fun i v hv => ?_, fun o => by simp [World.frozen?, hg]⟩
    rw [← ht] at hv
    have hi := (List.getElem?_eq_some_iff.1 hv).1
    rw [List.length_take] at hi
    rw [List.getElem?_take_of_lt (by omega)] at hv
    simp only [World.cell?, hg]
    simpa using hv
end Go.Proofs.YtfdndkgjmmeafaaGreatDoor

namespace Go.Proofs.YtfdndkgjmmeafaaGreatDoor
set_option linter.unusedSimpArgs false
set_option linter.unusedVariables false
open Go.RowKit Go.Maps
theorem line_has (m : LinesV) (k : Nat) (w : World) (hk : k < m.first.length) : Calls Tryz.prog 145 #[(.agg #[.slice (m).fA (m).first.length (m).fc, .slice (m).lA (m).logs.length (m).lc, .map (m).asks]), .int .i64 k] w fun e w' => e = .returned (.bool true) ∧ Below w.heap.size w w' := by
  have h0 : (0 : Int) ≤ k := by omega
  have h1 : (k : Int) < (m.first.length : Int) := by omega
  go_enter Tryz.func145, Tryz.ntmps145
  go_wp2_with fail
  all_goals first
    | (go_ret; exact ⟨rfl, ab0⟩)
    | (exfalso; omega)
theorem clipst_any (A : Option Addr) (m cp : Nat) (w : World) (h : m ≤ cp) :
    Calls Tryz.prog 155 #[.slice A m cp] w fun e w' => e = .returned (.slice A m m) ∧ w = w' := by
  go_enter Tryz.func155, Tryz.ntmps155
  go_wp2
  all_goals go_ret
  all_goals exact ⟨rfl, rfl⟩
theorem info_store : (Tryz.prog.info? 234).map (fun i => (i.zero, i.size, i.bytes)) = some (some (.agg #[.int .i64 0, .int .i64 0, .int .u32 0, .int .u32 0]), 4, 24) := by kernel_rfl
set_option maxHeartbeats 4000000 in
set_option maxRecDepth 100000 in
theorem line_store (m : LinesV) (k : Nat) (g : LogV) (x : W3) (w : World) (hR : m.R w) (hk : k < m.first.length) (hg : m.logs[k / 8]? = some g) (hn : m.first.length ≤ 4096) (hl : m.logs.length ≤ 4096) (hg6 : g.l.length ≤ 1000000) :
    Calls Tryz.prog 144 #[(.agg #[.slice (m).fA (m).first.length (m).fc, .slice (m).lA (m).logs.length (m).lc, .map (m).asks]), .int .i64 k, (.agg #[.int .i64 (x).v, .int .u32 (x).r, .int .u32 (x).f])] w fun e w' => ∃ g1 lc' g2 cap', e = .returned (.tuple #[.agg #[.slice m.fA m.first.length m.fc, .slice (some ⟨g1, 0, none⟩) m.logs.length lc', .map m.asks], .int .i64 0]) ∧ w.heap.size ≤ g1 ∧ w.heap.size ≤ g2 ∧ LinesV.R w' ⟨m.fA, m.fc, m.first, some ⟨g1, 0, none⟩, lc', m.logs.set (k / 8) ⟨some ⟨g2, 0, none⟩, cap', g.l ++ [((k : Int), x)], g.kept⟩, m.asks⟩ ∧ Below w.heap.size w w' := by
  obtain ⟨i0, hi0, jz0, jz1, jz2⟩ := info_parts info_store
  have hi := hide hi0
  have iz0 := hide jz0
  have iz1 := hide jz1
  have iz2 := hide jz2
  clear hi0 jz0 jz1 jz2
  have hj : k / 8 < m.logs.length := (List.getElem?_eq_some_iff.1 hg).1
  have hgR := hide (hR.2.2.2.2 g (List.mem_of_getElem? hg))
  have hhas := fun W => line_has m k W hk
  have hone : ∀ u ∈ m.logs.flatMap logc, u.oneCell' = true := by
    intro u hu
    obtain ⟨y, -, hy⟩ := List.mem_flatMap.1 hu
    simp [logc] at hy
    rcases hy with rfl | rfl <;> rfl
  have hcl := fun W (hw : Rd W W.heap.size 2 m.lA m.logs.length (m.logs.flatMap logc)) => clone_L m.lA m.logs.length m.lc (m.logs.flatMap logc) W hw hR.2.2.1 hone (by omega)
  have Hrl := hide hR.2.2.2.1
  have HR := hide hR
  have Hhas := hide hhas
  have Hcl := hide hcl
  have Hg := hide hg
  have Hj := hide hj
  obtain ⟨fA, fc, first, lA, lc, logs, asks⟩ := m
  simp only at hj hn hl hk Hhas Hcl Hrl
  have hj0 : (0 : Int) ≤ ((k / 8 : Nat) : Int) := by omega
  have hj1 : ((k / 8 : Nat) : Int) < (logs.length : Int) := by omega
  clear hR hhas hone hcl hg
  go_enter Tryz.func144, Tryz.ntmps144
  go_wp2_with (first
    | (go_at_call 145; refine (Hhas.out _).mono ?_; rintro e w1 ⟨rfl, hb1⟩; obtain ⟨hcc1, hff1⟩ := bcell hb1; have hs1 := hb1.size; (try simp at hs1); have hz10 : w.heap.size < w1.heap.size := (by omega); have hz11 : w.heap.size + 1 < w1.heap.size := (by omega); have hz12 : w.heap.size + 1 + 1 < w1.heap.size := (by omega))
    | (go_at_call 97; refine (Hcl.out _ ((Hrl.out.below ab0).more (by omega))).mono ?_; rintro e w2 ⟨A', lc', rfl, how2, hb2⟩; obtain ⟨g1, lc1, hA1, hlc1, hg1, hr1⟩ := own_some how2 (by omega); injection hA1 with hA1 _ hA2; subst hA1 hA2; obtain ⟨hcl2, hfl2⟩ := own_cells how2; obtain ⟨hcc2, hff2⟩ := bcell hb2; have hs2 := hb2.size; (try simp at hs2); (try simp at hg1); have hz20 : w.heap.size < w2.heap.size := (by omega); have hz21 : w.heap.size + 1 < w2.heap.size := (by omega); have hz22 : w.heap.size + 1 + 1 < w2.heap.size := (by omega); have Hown2 := hide how2; have Hcl2 := hide hcl2; have Hr1 := hide hr1; clear how2 hcl2 hr1; have q0 : w2.cell? ⟨w.heap.size, 0, none⟩ = some (.slice fA first.length fc) := (by go_simp); have q1 : w2.cell? ⟨w.heap.size, 1, none⟩ = some (.slice lA logs.length lc) := (by go_simp); have q2 : w2.cell? ⟨w.heap.size, 2, none⟩ = some (.map asks) := (by go_simp); have x0 : w2.cell? ⟨w.heap.size + 1, 0, none⟩ = some (.int .i64 x.v) := (by go_simp); have x1 : w2.cell? ⟨w.heap.size + 1, 1, none⟩ = some (.int .u32 x.r) := (by go_simp); have x2 : w2.cell? ⟨w.heap.size + 1, 2, none⟩ = some (.int .u32 x.f) := (by go_simp); have r0 : w2.cell? ⟨w.heap.size + 1 + 1, 0, none⟩ = some (.slice none 0 0) := (by go_simp); have r1 : w2.cell? ⟨w.heap.size + 1 + 1, 1, none⟩ = some (.slice none 0 0) := (by go_simp); have r2 : w2.cell? ⟨w.heap.size + 1 + 1, 2, none⟩ = some (.map none) := (by go_simp); have f0 : ∀ o, w2.frozen? ⟨w.heap.size, o, none⟩ = false := (by intro o; go_simp); have f1 : ∀ o, w2.frozen? ⟨w.heap.size + 1 + 1, o, none⟩ = false := (by intro o; go_simp); have hBw2 : Below w.heap.size w w2 := (ab0); clear hcc1 hff1 hcc2 hff2 hb1 hb2))
  have ng0 : ¬ w.heap.size = g1 := by omega
  have ng1 : ¬ w.heap.size + 1 = g1 := by omega
  have ng2 : ¬ w.heap.size + 1 + 1 = g1 := by omega
  have ng0' : w.heap.size ≠ g1 := ng0
  have hkc := told_at logc_len logs (k / 8) g Hg.out 0 (by omega)
  have k0 : w2.cell? ⟨g1, k / 8 * 2, none⟩ = some (.slice g.A g.l.length g.cap) := Hcl2.out _ _ hkc
  clear hkc
  obtain ⟨w3, hw3⟩ : ∃ W : World, W = (w2.setCell ⟨w.heap.size, 1, none⟩ (.slice (some ⟨g1, 0, none⟩) logs.length lc')) := ⟨_, rfl⟩
  have es3 : w2.heap.size ≤ w3.heap.size := by rw [hw3]; simp
  have kk0 : w3.cell? ⟨g1, k / 8 * 2, none⟩ = some (.slice g.A g.l.length g.cap) := by rw [hw3]; go_simp
  have kq0 : w3.cell? ⟨w.heap.size, 0, none⟩ = some (.slice fA first.length fc) := by rw [hw3]; go_simp
  have kq1 : w3.cell? ⟨w.heap.size, 1, none⟩ = some ((.slice (some ⟨g1, 0, none⟩) logs.length lc')) := by rw [hw3]; go_simp
  have kq2 : w3.cell? ⟨w.heap.size, 2, none⟩ = some (.map asks) := by rw [hw3]; go_simp
  have kx0 : w3.cell? ⟨w.heap.size + 1, 0, none⟩ = some (.int .i64 x.v) := by rw [hw3]; go_simp
  have kx1 : w3.cell? ⟨w.heap.size + 1, 1, none⟩ = some (.int .u32 x.r) := by rw [hw3]; go_simp
  have kx2 : w3.cell? ⟨w.heap.size + 1, 2, none⟩ = some (.int .u32 x.f) := by rw [hw3]; go_simp
  have kr0 : w3.cell? ⟨w.heap.size + 1 + 1, 0, none⟩ = some (.slice none 0 0) := by rw [hw3]; go_simp
  have kr1 : w3.cell? ⟨w.heap.size + 1 + 1, 1, none⟩ = some (.slice none 0 0) := by rw [hw3]; go_simp
  have kr2 : w3.cell? ⟨w.heap.size + 1 + 1, 2, none⟩ = some (.map none) := by rw [hw3]; go_simp
  have kf0 : ∀ o, w3.frozen? ⟨w.heap.size, o, none⟩ = false := by intro o; rw [hw3]; go_simp
  have kf1 : ∀ o, w3.frozen? ⟨w.heap.size + 1 + 1, o, none⟩ = false := by intro o; rw [hw3]; go_simp
  have kfg : ∀ o, w3.frozen? ⟨g1, o, none⟩ = false := by intro o; rw [hw3]; go_simp
  have hBw3 : Below w.heap.size w w3 := by rw [hw3]; exact ab0
  have Hr3 : Hid (Rd w3 w3.heap.size 2 (some ⟨g1, 0, none⟩) logs.length (logs.flatMap logc)) := hide (by rw [hw3]; exact Rd.more (Rd.set_off Hr1.out (OffC.at (fun e => ng0 e.symm)) _) (by simp))
  have hgl3 : g1 < w3.heap.size := cell_lt kk0
  rw [← hw3]
  clear hw3 k0 q0 q1 q2 x0 x1 x2 r0 r1 r2 f0 f1 hfl2
  have hz30 : w.heap.size < w3.heap.size := by omega
  have hz31 : w.heap.size + 1 < w3.heap.size := by omega
  have hz32 : w.heap.size + 1 + 1 < w3.heap.size := by omega
  have hgcap := hide hgR.out.1
  have hgRd := hide hgR.out.2.2
  have hgA := hide hgR.out.2.1
  refine wp_region_held_drew (S := (fun w' => w'.cell? ⟨w.heap.size + 1, 0, none⟩ = some (.int .i64 x.v) ∧ w'.cell? ⟨w.heap.size + 1, 1, none⟩ = some (.int .u32 x.r) ∧ w'.cell? ⟨w.heap.size + 1, 2, none⟩ = some (.int .u32 x.f))) (by kernel_rfl) ab14 (fun hHeld => ?_)
  refine wpAnyH_take (i := 0) (v := ?_) (oi := { dst := some 23, op := Op.move (Operand.tmp 8), type := 247, pos := "line.go:60", after := #[], guard := none }) (by rfl) (by kernel_rfl) (by kernel_rfl) (by kernel_rfl) (fun _ _ _ h => h) (Or.inl ⟨by rfl, ?_⟩) (by assumption) ?_; rotate_left; focus (intro wTk hSw; (try dsimp only at hSw); go_simp; (try with_reducible rfl); done)
  (try simp only [Act.put, List.setIfInBounds_toArray, List.set_cons_zero, List.set_cons_succ])
  refine wpAnyH_take (i := 1) (v := ?_) (oi := { dst := some 24, op := Op.move (Operand.tmp 8), type := 247, pos := "line.go:60", after := #[], guard := none }) (by rfl) (by kernel_rfl) (by kernel_rfl) (by kernel_rfl) (fun _ _ _ h => h) (Or.inl ⟨by rfl, ?_⟩) (by assumption) ?_; rotate_left; focus (intro wTk hSw; (try dsimp only at hSw); go_simp; (try with_reducible rfl); done)
  (try simp only [Act.put, List.setIfInBounds_toArray, List.set_cons_zero, List.set_cons_succ])
  refine wpAnyH_take (i := 2) (v := ?_) (oi := { dst := some 25, op := Op.nilCheck (Operand.tmp 24), type := 0, pos := "line.go:60", after := #[{ on := 1, ground := Ground.data }], guard := none }) (by rfl) (by kernel_rfl) (by kernel_rfl) (by kernel_rfl) (fun _ _ _ h => h) (Or.inl ⟨by rfl, ?_⟩) (by assumption) ?_; rotate_left; focus (intro wTk hSw; (try dsimp only at hSw); go_simp; (try with_reducible rfl); done)
  (try simp only [Act.put, List.setIfInBounds_toArray, List.set_cons_zero, List.set_cons_succ])
  refine wpAnyH_take (i := 3) (v := ?_) (oi := { dst := some 26, op := Op.fieldAddr 188 (Operand.tmp 25) 0, type := 0, pos := "line.go:60", after := #[{ on := 2, ground := Ground.data }], guard := none }) (by rfl) (by kernel_rfl) (by kernel_rfl) (by kernel_rfl) (fun _ _ _ h => h) (Or.inl ⟨by rfl, ?_⟩) (by assumption) ?_; rotate_left; focus (intro wTk hSw; (try dsimp only at hSw); go_simp; (try with_reducible rfl); done)
  (try simp only [Act.put, List.setIfInBounds_toArray, List.set_cons_zero, List.set_cons_succ])
  refine wpAnyH_take (i := 6) (v := ?_) (oi := { dst := some 29, op := Op.move (Operand.tmp 1), type := 22, pos := "line.go:60", after := #[], guard := none }) (by rfl) (by kernel_rfl) (by kernel_rfl) (by kernel_rfl) (fun _ _ _ h => h) (Or.inl ⟨by rfl, ?_⟩) (by assumption) ?_; rotate_left; focus (intro wTk hSw; (try dsimp only at hSw); go_simp; (try with_reducible rfl); done)
  (try simp only [Act.put, List.setIfInBounds_toArray, List.set_cons_zero, List.set_cons_succ])
  refine wpAnyH_take (i := 7) (v := ?_) (oi := { dst := some 30, op := Op.load 25 (Operand.tmp 5), type := 25, pos := "line.go:60", after := #[], guard := none }) (by rfl) (by kernel_rfl) (by kernel_rfl) (by kernel_rfl) (fun _ _ _ h => h) (Or.inl ⟨by rfl, ?_⟩) (by assumption) ?_; rotate_left; focus (intro wTk hSw; (try dsimp only at hSw); go_simp; (try with_reducible rfl); done)
  (try simp only [Act.put, List.setIfInBounds_toArray, List.set_cons_zero, List.set_cons_succ])
  refine wpAnyH_take (i := 8) (v := ?_) (oi := { dst := some 31, op := Op.build 234 #[(0, Operand.tmp 29), (1, Operand.tmp 30)], type := 234, pos := "line.go:60", after := #[{ on := 6, ground := Ground.data }, { on := 7, ground := Ground.data }], guard := none }) (by rfl) (by kernel_rfl) (by kernel_rfl) (by kernel_rfl) (fun _ _ _ h => h) (Or.inl ⟨by rfl, ?_⟩) (by assumption) ?_; rotate_left; focus (intro wTk hSw; (try dsimp only at hSw); go_simp; (try with_reducible rfl); done)
  (try simp only [Act.put, List.setIfInBounds_toArray, List.set_cons_zero, List.set_cons_succ])
  refine wpAnyH_ready (rs := [4, 9]) (by kernel_rfl) (by simp) ?_
  focus
    refine AllReadyH.cons (o := { dst := some 27, op := Op.load 186 (Operand.tmp 26), type := 186, pos := "line.go:60", after := #[{ on := 3, ground := Ground.data }], guard := none }) (by rfl) (fun K hK => ?_) (AllReadyH.cons (o := { dst := some 32, op := Op.buildSlice 186 1 #[(0, Operand.tmp 31)], type := 186, pos := "line.go:60", after := #[{ on := 8, ground := Ground.data }], guard := none }) (by rfl) (fun K hK => ?_) (AllReadyH.nil))
    focus
      go_simp
      skip
      go_wp2_with fail
      refine hK.out _ _ ab14 (fun hHeld => ?_)
      clear hK K
      (try simp only [Act.put, List.setIfInBounds_toArray, List.set_cons_zero, List.set_cons_succ])
      refine wpAnyH_ready (rs := [5, 9]) (by kernel_rfl) (by simp) ?_
      focus
        refine AllReadyH.cons (o := { dst := some 28, op := Op.call { callee := Callee.value (Operand.func 155), args := #[Operand.tmp 27], argTypes := #[186] }, type := 186, pos := "line.go:60", after := #[{ on := 4, ground := Ground.data }], guard := none }) (by rfl) (fun K hK => ?_) (AllReadyH.cons (o := { dst := some 32, op := Op.buildSlice 186 1 #[(0, Operand.tmp 31)], type := 186, pos := "line.go:60", after := #[{ on := 8, ground := Ground.data }], guard := none }) (by rfl) (fun K hK => ?_) (AllReadyH.nil))
        focus
          go_simp
          (go_at_call 155; refine (clipst_any g.A g.l.length g.cap _ hgcap.out).mono ?_; rintro e w4 ⟨rfl, rfl⟩)
          go_wp2_with fail
          refine hK.out _ _ ab14 (fun hHeld => ?_)
          clear hK K
          (try simp only [Act.put, List.setIfInBounds_toArray, List.set_cons_zero, List.set_cons_succ])
          refine wpAnyH_ready (rs := [9]) (by kernel_rfl) (by simp) ?_
          refine AllReadyH.cons (o := { dst := some 32, op := Op.buildSlice 186 1 #[(0, Operand.tmp 31)], type := 186, pos := "line.go:60", after := #[{ on := 8, ground := Ground.data }], guard := none }) (by rfl) (fun K hK => ?_) (AllReadyH.nil)
          go_simp
          skip
          go_wp2_with fail
          refine hK.out _ _ ab14 (fun hHeld => ?_)
          clear hK K
          (try simp only [Act.put, List.setIfInBounds_toArray, List.set_cons_zero, List.set_cons_succ])
          refine wpAnyH_ready (rs := [10]) (by kernel_rfl) (by simp) ?_
          refine AllReadyH.cons (o := { dst := some 33, op := Op.call { callee := Callee.builtin Builtin.append, args := #[Operand.tmp 28, Operand.tmp 32], argTypes := #[186, 186] }, type := 186, pos := "line.go:60", after := #[{ on := 5, ground := Ground.data }, { on := 9, ground := Ground.data }, { on := 5, ground := Ground.chain }], guard := none }) (by rfl) (fun K hK => ?_) (AllReadyH.nil)
          refine wp_append_one (.tmp 28) (.tmp 32) 186 rfl 234 i0 _ 4 24 Tryz.underlying186 hi.out iz0.out iz1.out iz2.out rfl w.heap.size g.A g.l.length (g.l.flatMap storec) (by simp [Act.eval, Act.put]) (hgRd.out.below ab0) hgA.out ⟨w3.heap.size, 0, none⟩ 1 (storec ((k : Int), x)) (by simp [Act.eval, Act.put]) rfl ?_ (by unfold maxLen; omega) (by omega) ?_; (focus (intro j u hu; refine alloc_cell _ _ _ (by simp) ?_; simpa [storec] using hu)); intro cp5 w5 how5 hb5' hz5; (try simp at hz5); have hB35 : Below w3.heap.size w3 w5 := (Below.drew (Below.alloc (Below.refl w3.heap.size w3) (Nat.le_refl _) _)).trans (hb5'.mono (by simp)); have hs5 := hB35.size; have hc5 : ∀ x o, x < w3.heap.size → w5.cell? ⟨x, o, none⟩ = w3.cell? ⟨x, o, none⟩ := (fun x o hx => hB35.cell (p := ⟨x, o, none⟩) hx); have hf5 : ∀ x o, x < w3.heap.size → w5.frozen? ⟨x, o, none⟩ = w3.frozen? ⟨x, o, none⟩ := (fun x o hx => hB35.frozen (p := ⟨x, o, none⟩) hx)
          (try go_simp)
          skip
          go_wp2_with fail
          refine hK.out _ _ ab14 (fun hHeld => ?_)
          clear hK K
          (try simp only [Act.put, List.setIfInBounds_toArray, List.set_cons_zero, List.set_cons_succ])
          refine wpAnyH_take (i := 11) (v := ?_) (oi := { dst := some 34, op := Op.nilCheck (Operand.tmp 23), type := 0, pos := "line.go:60", after := #[{ on := 0, ground := Ground.data }, { on := 0, ground := Ground.phase }, { on := 1, ground := Ground.phase }, { on := 2, ground := Ground.phase }, { on := 3, ground := Ground.phase }, { on := 4, ground := Ground.phase }, { on := 5, ground := Ground.phase }, { on := 6, ground := Ground.phase }, { on := 7, ground := Ground.phase }, { on := 8, ground := Ground.phase }, { on := 9, ground := Ground.phase }, { on := 10, ground := Ground.phase }], guard := none }) (by rfl) (by kernel_rfl) (by kernel_rfl) (by kernel_rfl) (fun _ _ _ h => h) (Or.inl ⟨by rfl, ?_⟩) (by assumption) ?_; rotate_left; focus (intro wTk hSw; (try dsimp only at hSw); go_simp; (try with_reducible rfl); done)
          (try simp only [Act.put, List.setIfInBounds_toArray, List.set_cons_zero, List.set_cons_succ])
          refine wpAnyH_take (i := 12) (v := ?_) (oi := { dst := some 35, op := Op.fieldAddr 188 (Operand.tmp 34) 0, type := 0, pos := "line.go:60", after := #[{ on := 11, ground := Ground.data }, { on := 0, ground := Ground.phase }, { on := 1, ground := Ground.phase }, { on := 2, ground := Ground.phase }, { on := 3, ground := Ground.phase }, { on := 4, ground := Ground.phase }, { on := 5, ground := Ground.phase }, { on := 6, ground := Ground.phase }, { on := 7, ground := Ground.phase }, { on := 8, ground := Ground.phase }, { on := 9, ground := Ground.phase }, { on := 10, ground := Ground.phase }], guard := none }) (by rfl) (by kernel_rfl) (by kernel_rfl) (by kernel_rfl) (fun _ _ _ h => h) (Or.inl ⟨by rfl, ?_⟩) (by assumption) ?_; rotate_left; focus (intro wTk hSw; (try dsimp only at hSw); go_simp; (try with_reducible rfl); done)
          (try simp only [Act.put, List.setIfInBounds_toArray, List.set_cons_zero, List.set_cons_succ])
          refine wpAnyH_ready (rs := [13]) (by kernel_rfl) (by simp) ?_
          refine AllReadyH.cons (o := { dst := none, op := Op.store 186 (Operand.tmp 35) (Operand.tmp 33), type := 0, pos := "line.go:60", after := #[{ on := 12, ground := Ground.data }, { on := 10, ground := Ground.data }, { on := 10, ground := Ground.chain }, { on := 0, ground := Ground.phase }, { on := 1, ground := Ground.phase }, { on := 2, ground := Ground.phase }, { on := 3, ground := Ground.phase }, { on := 4, ground := Ground.phase }, { on := 5, ground := Ground.phase }, { on := 6, ground := Ground.phase }, { on := 7, ground := Ground.phase }, { on := 8, ground := Ground.phase }, { on := 9, ground := Ground.phase }, { on := 10, ground := Ground.phase }], guard := none }) (by rfl) (fun K hK => ?_) (AllReadyH.nil)
          go_simp
          skip
          go_wp2_with fail
          refine hK.out _ _ ab14 (fun hHeld => ?_)
          clear hK K
          (try simp only [Act.put, List.setIfInBounds_toArray, List.set_cons_zero, List.set_cons_succ])
          refine wpAnyH_done (by kernel_rfl) ?_ _
        rotate_left 1
        focus
          go_simp
          skip
          go_wp2_with fail
          refine hK.out _ _ ab14 (fun hHeld => ?_)
          clear hK K
          (try simp only [Act.put, List.setIfInBounds_toArray, List.set_cons_zero, List.set_cons_succ])
          refine wpAnyH_ready (rs := [5]) (by kernel_rfl) (by simp) ?_
          refine AllReadyH.cons (o := { dst := some 28, op := Op.call { callee := Callee.value (Operand.func 155), args := #[Operand.tmp 27], argTypes := #[186] }, type := 186, pos := "line.go:60", after := #[{ on := 4, ground := Ground.data }], guard := none }) (by rfl) (fun K hK => ?_) (AllReadyH.nil)
          go_simp
          (go_at_call 155; refine (clipst_any g.A g.l.length g.cap _ hgcap.out).mono ?_; rintro e w4 ⟨rfl, rfl⟩)
          go_wp2_with fail
          refine hK.out _ _ ab14 (fun hHeld => ?_)
          clear hK K
          (try simp only [Act.put, List.setIfInBounds_toArray, List.set_cons_zero, List.set_cons_succ])
          refine wpAnyH_ready (rs := [10]) (by kernel_rfl) (by simp) ?_
          refine AllReadyH.cons (o := { dst := some 33, op := Op.call { callee := Callee.builtin Builtin.append, args := #[Operand.tmp 28, Operand.tmp 32], argTypes := #[186, 186] }, type := 186, pos := "line.go:60", after := #[{ on := 5, ground := Ground.data }, { on := 9, ground := Ground.data }, { on := 5, ground := Ground.chain }], guard := none }) (by rfl) (fun K hK => ?_) (AllReadyH.nil)
          refine wp_append_one (.tmp 28) (.tmp 32) 186 rfl 234 i0 _ 4 24 Tryz.underlying186 hi.out iz0.out iz1.out iz2.out rfl w.heap.size g.A g.l.length (g.l.flatMap storec) (by simp [Act.eval, Act.put]) (hgRd.out.below ab0) hgA.out ⟨w3.heap.size, 0, none⟩ 1 (storec ((k : Int), x)) (by simp [Act.eval, Act.put]) rfl ?_ (by unfold maxLen; omega) (by omega) ?_; (focus (intro j u hu; refine alloc_cell _ _ _ (by simp) ?_; simpa [storec] using hu)); intro cp5 w5 how5 hb5' hz5; (try simp at hz5); have hB35 : Below w3.heap.size w3 w5 := (Below.drew (Below.alloc (Below.refl w3.heap.size w3) (Nat.le_refl _) _)).trans (hb5'.mono (by simp)); have hs5 := hB35.size; have hc5 : ∀ x o, x < w3.heap.size → w5.cell? ⟨x, o, none⟩ = w3.cell? ⟨x, o, none⟩ := (fun x o hx => hB35.cell (p := ⟨x, o, none⟩) hx); have hf5 : ∀ x o, x < w3.heap.size → w5.frozen? ⟨x, o, none⟩ = w3.frozen? ⟨x, o, none⟩ := (fun x o hx => hB35.frozen (p := ⟨x, o, none⟩) hx)
          (try go_simp)
          skip
          go_wp2_with fail
          refine hK.out _ _ ab14 (fun hHeld => ?_)
          clear hK K
          (try simp only [Act.put, List.setIfInBounds_toArray, List.set_cons_zero, List.set_cons_succ])
          refine wpAnyH_take (i := 11) (v := ?_) (oi := { dst := some 34, op := Op.nilCheck (Operand.tmp 23), type := 0, pos := "line.go:60", after := #[{ on := 0, ground := Ground.data }, { on := 0, ground := Ground.phase }, { on := 1, ground := Ground.phase }, { on := 2, ground := Ground.phase }, { on := 3, ground := Ground.phase }, { on := 4, ground := Ground.phase }, { on := 5, ground := Ground.phase }, { on := 6, ground := Ground.phase }, { on := 7, ground := Ground.phase }, { on := 8, ground := Ground.phase }, { on := 9, ground := Ground.phase }, { on := 10, ground := Ground.phase }], guard := none }) (by rfl) (by kernel_rfl) (by kernel_rfl) (by kernel_rfl) (fun _ _ _ h => h) (Or.inl ⟨by rfl, ?_⟩) (by assumption) ?_; rotate_left; focus (intro wTk hSw; (try dsimp only at hSw); go_simp; (try with_reducible rfl); done)
          (try simp only [Act.put, List.setIfInBounds_toArray, List.set_cons_zero, List.set_cons_succ])
          refine wpAnyH_take (i := 12) (v := ?_) (oi := { dst := some 35, op := Op.fieldAddr 188 (Operand.tmp 34) 0, type := 0, pos := "line.go:60", after := #[{ on := 11, ground := Ground.data }, { on := 0, ground := Ground.phase }, { on := 1, ground := Ground.phase }, { on := 2, ground := Ground.phase }, { on := 3, ground := Ground.phase }, { on := 4, ground := Ground.phase }, { on := 5, ground := Ground.phase }, { on := 6, ground := Ground.phase }, { on := 7, ground := Ground.phase }, { on := 8, ground := Ground.phase }, { on := 9, ground := Ground.phase }, { on := 10, ground := Ground.phase }], guard := none }) (by rfl) (by kernel_rfl) (by kernel_rfl) (by kernel_rfl) (fun _ _ _ h => h) (Or.inl ⟨by rfl, ?_⟩) (by assumption) ?_; rotate_left; focus (intro wTk hSw; (try dsimp only at hSw); go_simp; (try with_reducible rfl); done)
          (try simp only [Act.put, List.setIfInBounds_toArray, List.set_cons_zero, List.set_cons_succ])
          refine wpAnyH_ready (rs := [13]) (by kernel_rfl) (by simp) ?_
          refine AllReadyH.cons (o := { dst := none, op := Op.store 186 (Operand.tmp 35) (Operand.tmp 33), type := 0, pos := "line.go:60", after := #[{ on := 12, ground := Ground.data }, { on := 10, ground := Ground.data }, { on := 10, ground := Ground.chain }, { on := 0, ground := Ground.phase }, { on := 1, ground := Ground.phase }, { on := 2, ground := Ground.phase }, { on := 3, ground := Ground.phase }, { on := 4, ground := Ground.phase }, { on := 5, ground := Ground.phase }, { on := 6, ground := Ground.phase }, { on := 7, ground := Ground.phase }, { on := 8, ground := Ground.phase }, { on := 9, ground := Ground.phase }, { on := 10, ground := Ground.phase }], guard := none }) (by rfl) (fun K hK => ?_) (AllReadyH.nil)
          go_simp
          skip
          go_wp2_with fail
          refine hK.out _ _ ab14 (fun hHeld => ?_)
          clear hK K
          (try simp only [Act.put, List.setIfInBounds_toArray, List.set_cons_zero, List.set_cons_succ])
          refine wpAnyH_done (by kernel_rfl) ?_ _
        rotate_left 1
    rotate_left 2
    focus
      go_simp
      skip
      go_wp2_with fail
      refine hK.out _ _ ab14 (fun hHeld => ?_)
      clear hK K
      (try simp only [Act.put, List.setIfInBounds_toArray, List.set_cons_zero, List.set_cons_succ])
      refine wpAnyH_ready (rs := [4]) (by kernel_rfl) (by simp) ?_
      refine AllReadyH.cons (o := { dst := some 27, op := Op.load 186 (Operand.tmp 26), type := 186, pos := "line.go:60", after := #[{ on := 3, ground := Ground.data }], guard := none }) (by rfl) (fun K hK => ?_) (AllReadyH.nil)
      go_simp
      skip
      go_wp2_with fail
      refine hK.out _ _ ab14 (fun hHeld => ?_)
      clear hK K
      (try simp only [Act.put, List.setIfInBounds_toArray, List.set_cons_zero, List.set_cons_succ])
      refine wpAnyH_ready (rs := [5]) (by kernel_rfl) (by simp) ?_
      refine AllReadyH.cons (o := { dst := some 28, op := Op.call { callee := Callee.value (Operand.func 155), args := #[Operand.tmp 27], argTypes := #[186] }, type := 186, pos := "line.go:60", after := #[{ on := 4, ground := Ground.data }], guard := none }) (by rfl) (fun K hK => ?_) (AllReadyH.nil)
      go_simp
      (go_at_call 155; refine (clipst_any g.A g.l.length g.cap _ hgcap.out).mono ?_; rintro e w4 ⟨rfl, rfl⟩)
      go_wp2_with fail
      refine hK.out _ _ ab14 (fun hHeld => ?_)
      clear hK K
      (try simp only [Act.put, List.setIfInBounds_toArray, List.set_cons_zero, List.set_cons_succ])
      refine wpAnyH_ready (rs := [10]) (by kernel_rfl) (by simp) ?_
      refine AllReadyH.cons (o := { dst := some 33, op := Op.call { callee := Callee.builtin Builtin.append, args := #[Operand.tmp 28, Operand.tmp 32], argTypes := #[186, 186] }, type := 186, pos := "line.go:60", after := #[{ on := 5, ground := Ground.data }, { on := 9, ground := Ground.data }, { on := 5, ground := Ground.chain }], guard := none }) (by rfl) (fun K hK => ?_) (AllReadyH.nil)
      refine wp_append_one (.tmp 28) (.tmp 32) 186 rfl 234 i0 _ 4 24 Tryz.underlying186 hi.out iz0.out iz1.out iz2.out rfl w.heap.size g.A g.l.length (g.l.flatMap storec) (by simp [Act.eval, Act.put]) (hgRd.out.below ab0) hgA.out ⟨w3.heap.size, 0, none⟩ 1 (storec ((k : Int), x)) (by simp [Act.eval, Act.put]) rfl ?_ (by unfold maxLen; omega) (by omega) ?_; (focus (intro j u hu; refine alloc_cell _ _ _ (by simp) ?_; simpa [storec] using hu)); intro cp5 w5 how5 hb5' hz5; (try simp at hz5); have hB35 : Below w3.heap.size w3 w5 := (Below.drew (Below.alloc (Below.refl w3.heap.size w3) (Nat.le_refl _) _)).trans (hb5'.mono (by simp)); have hs5 := hB35.size; have hc5 : ∀ x o, x < w3.heap.size → w5.cell? ⟨x, o, none⟩ = w3.cell? ⟨x, o, none⟩ := (fun x o hx => hB35.cell (p := ⟨x, o, none⟩) hx); have hf5 : ∀ x o, x < w3.heap.size → w5.frozen? ⟨x, o, none⟩ = w3.frozen? ⟨x, o, none⟩ := (fun x o hx => hB35.frozen (p := ⟨x, o, none⟩) hx)
      (try go_simp)
      skip
      go_wp2_with fail
      refine hK.out _ _ ab14 (fun hHeld => ?_)
      clear hK K
      (try simp only [Act.put, List.setIfInBounds_toArray, List.set_cons_zero, List.set_cons_succ])
      refine wpAnyH_take (i := 11) (v := ?_) (oi := { dst := some 34, op := Op.nilCheck (Operand.tmp 23), type := 0, pos := "line.go:60", after := #[{ on := 0, ground := Ground.data }, { on := 0, ground := Ground.phase }, { on := 1, ground := Ground.phase }, { on := 2, ground := Ground.phase }, { on := 3, ground := Ground.phase }, { on := 4, ground := Ground.phase }, { on := 5, ground := Ground.phase }, { on := 6, ground := Ground.phase }, { on := 7, ground := Ground.phase }, { on := 8, ground := Ground.phase }, { on := 9, ground := Ground.phase }, { on := 10, ground := Ground.phase }], guard := none }) (by rfl) (by kernel_rfl) (by kernel_rfl) (by kernel_rfl) (fun _ _ _ h => h) (Or.inl ⟨by rfl, ?_⟩) (by assumption) ?_; rotate_left; focus (intro wTk hSw; (try dsimp only at hSw); go_simp; (try with_reducible rfl); done)
      (try simp only [Act.put, List.setIfInBounds_toArray, List.set_cons_zero, List.set_cons_succ])
      refine wpAnyH_take (i := 12) (v := ?_) (oi := { dst := some 35, op := Op.fieldAddr 188 (Operand.tmp 34) 0, type := 0, pos := "line.go:60", after := #[{ on := 11, ground := Ground.data }, { on := 0, ground := Ground.phase }, { on := 1, ground := Ground.phase }, { on := 2, ground := Ground.phase }, { on := 3, ground := Ground.phase }, { on := 4, ground := Ground.phase }, { on := 5, ground := Ground.phase }, { on := 6, ground := Ground.phase }, { on := 7, ground := Ground.phase }, { on := 8, ground := Ground.phase }, { on := 9, ground := Ground.phase }, { on := 10, ground := Ground.phase }], guard := none }) (by rfl) (by kernel_rfl) (by kernel_rfl) (by kernel_rfl) (fun _ _ _ h => h) (Or.inl ⟨by rfl, ?_⟩) (by assumption) ?_; rotate_left; focus (intro wTk hSw; (try dsimp only at hSw); go_simp; (try with_reducible rfl); done)
      (try simp only [Act.put, List.setIfInBounds_toArray, List.set_cons_zero, List.set_cons_succ])
      refine wpAnyH_ready (rs := [13]) (by kernel_rfl) (by simp) ?_
      refine AllReadyH.cons (o := { dst := none, op := Op.store 186 (Operand.tmp 35) (Operand.tmp 33), type := 0, pos := "line.go:60", after := #[{ on := 12, ground := Ground.data }, { on := 10, ground := Ground.data }, { on := 10, ground := Ground.chain }, { on := 0, ground := Ground.phase }, { on := 1, ground := Ground.phase }, { on := 2, ground := Ground.phase }, { on := 3, ground := Ground.phase }, { on := 4, ground := Ground.phase }, { on := 5, ground := Ground.phase }, { on := 6, ground := Ground.phase }, { on := 7, ground := Ground.phase }, { on := 8, ground := Ground.phase }, { on := 9, ground := Ground.phase }, { on := 10, ground := Ground.phase }], guard := none }) (by rfl) (fun K hK => ?_) (AllReadyH.nil)
      go_simp
      skip
      go_wp2_with fail
      refine hK.out _ _ ab14 (fun hHeld => ?_)
      clear hK K
      (try simp only [Act.put, List.setIfInBounds_toArray, List.set_cons_zero, List.set_cons_succ])
      refine wpAnyH_done (by kernel_rfl) ?_ _
    rotate_left 1
  all_goals have q05 := (hc5 _ 0 hz30).trans kq0
  all_goals have q15 := (hc5 _ 1 hz30).trans kq1
  all_goals have q25 := (hc5 _ 2 hz30).trans kq2
  all_goals have r05 := (hc5 _ 0 hz32).trans kr0
  all_goals have r15 := (hc5 _ 1 hz32).trans kr1
  all_goals have r25 := (hc5 _ 2 hz32).trans kr2
  all_goals have kk5 := (hc5 _ (k / 8 * 2) hgl3).trans kk0
  all_goals have f15 : ∀ o, w5.frozen? ⟨w.heap.size + 1 + 1, o, none⟩ = false := fun o => (hf5 _ o hz32).trans (kf1 o)
  all_goals clear hc5 hf5 kq0 kq1 kq2 kr0 kr1 kr2 kk0 kf0 kf1 kfg kx0 kx1 kx2
  all_goals go_wp2_with fail
  all_goals have nw0 : w.heap.size + 1 + 1 ≠ w3.heap.size + 1 := by omega
  all_goals have nw1 : g1 ≠ w3.heap.size + 1 := by omega
  all_goals have hgw1 : w.heap.size ≤ g1 := by omega
  all_goals have hgw2 : w.heap.size ≤ w3.heap.size + 1 := by omega
  all_goals have HBZ : Hid (Below w.heap.size w ((((w5.setCell ⟨g1, k / 8 * 2, none⟩ (.slice (some ⟨w3.heap.size + 1, 0, none⟩) (g.l.length + 1) cp5)).setCell ⟨w.heap.size + 1 + 1, 0, none⟩ (.slice fA first.length fc)).setCell ⟨w.heap.size + 1 + 1, 1, none⟩ (.slice (some ⟨g1, 0, none⟩) logs.length lc')).setCell ⟨w.heap.size + 1 + 1, 2, none⟩ (.map asks))) := hide (Below.setCell (Below.setCell (Below.setCell (Below.setCell (hBw3.trans (hB35.mono (by omega))) hgw1 _) ab5 _) ab5 _) ab5 _)
  all_goals have hown5 : w5.ownsRow (w3.heap.size + 1) 234 4 (.slice (some ⟨w3.heap.size + 1, 0, none⟩) (g.l.length + 1) cp5) (g.l.length + 1) (g.l.flatMap storec ++ storec ((k : Int), x)) := by simpa using how5.out
  all_goals obtain ⟨g2', cq, hq, hcq, -, hrd5⟩ := own_some hown5 (by omega)
  all_goals injection hq with hq _ hq2
  all_goals injection hq with hq
  all_goals injection hq with hq _
  all_goals subst hq hq2
  all_goals have hrl : Rd ((((w5.setCell ⟨g1, k / 8 * 2, none⟩ (.slice (some ⟨w3.heap.size + 1, 0, none⟩) (g.l.length + 1) cp5)).setCell ⟨w.heap.size + 1 + 1, 0, none⟩ (.slice fA first.length fc)).setCell ⟨w.heap.size + 1 + 1, 1, none⟩ (.slice (some ⟨g1, 0, none⟩) logs.length lc')).setCell ⟨w.heap.size + 1 + 1, 2, none⟩ (.map asks)) ((((w5.setCell ⟨g1, k / 8 * 2, none⟩ (.slice (some ⟨w3.heap.size + 1, 0, none⟩) (g.l.length + 1) cp5)).setCell ⟨w.heap.size + 1 + 1, 0, none⟩ (.slice fA first.length fc)).setCell ⟨w.heap.size + 1 + 1, 1, none⟩ (.slice (some ⟨g1, 0, none⟩) logs.length lc')).setCell ⟨w.heap.size + 1 + 1, 2, none⟩ (.map asks)).heap.size 2 (some ⟨g1, 0, none⟩) logs.length ((logs.set (k / 8) ⟨some ⟨w3.heap.size + 1, 0, none⟩, cp5, g.l ++ [((k : Int), x)], g.kept⟩).flatMap logc) := by
                have h1 : (w5.setCell ⟨g1, 0 + k / 8 * 2, none⟩ (.slice (some ⟨w3.heap.size + 1, 0, none⟩) (g.l.length + 1) cp5)).heap.size = w5.heap.size := by simp
                have hlen : k / 8 * 2 + 0 < (logs.flatMap logc).length := by rw [Hr3.out.1]; have := Hj.out; omega
                have h2 := Rd.setAt (Hr3.out.below hB35) (i := k / 8 * 2 + 0) hlen (.slice (some ⟨w3.heap.size + 1, 0, none⟩) (g.l.length + 1) cp5)
                rw [flatMap_set logc_len logs (k / 8) 0 g ⟨some ⟨w3.heap.size + 1, 0, none⟩, cp5, g.l ++ [((k : Int), x)], g.kept⟩ (.slice (some ⟨w3.heap.size + 1, 0, none⟩) (g.l.length + 1) cp5) Hg.out (by omega) (by simp [logc]), Nat.zero_add, Nat.add_zero] at h2
                exact Rd.more (Rd.set_off (Rd.set_off (Rd.set_off h2 (OffC.at (fun e => ng2 e.symm)) _) (OffC.at (fun e => ng2 e.symm)) _) (OffC.at (fun e => ng2 e.symm)) _) (by simp; exact hs5)
  all_goals have hrn : LogV.R ((((w5.setCell ⟨g1, k / 8 * 2, none⟩ (.slice (some ⟨w3.heap.size + 1, 0, none⟩) (g.l.length + 1) cp5)).setCell ⟨w.heap.size + 1 + 1, 0, none⟩ (.slice fA first.length fc)).setCell ⟨w.heap.size + 1 + 1, 1, none⟩ (.slice (some ⟨g1, 0, none⟩) logs.length lc')).setCell ⟨w.heap.size + 1 + 1, 2, none⟩ (.map asks)) ⟨some ⟨w3.heap.size + 1, 0, none⟩, cp5, g.l ++ [((k : Int), x)], g.kept⟩ := by
                refine ⟨?_, (fun e => by cases e), ?_⟩
                · show (g.l ++ [((k : Int), x)]).length ≤ cp5
                  rw [List.length_append]; exact hcq
                · show Rd ((((w5.setCell ⟨g1, k / 8 * 2, none⟩ (.slice (some ⟨w3.heap.size + 1, 0, none⟩) (g.l.length + 1) cp5)).setCell ⟨w.heap.size + 1 + 1, 0, none⟩ (.slice fA first.length fc)).setCell ⟨w.heap.size + 1 + 1, 1, none⟩ (.slice (some ⟨g1, 0, none⟩) logs.length lc')).setCell ⟨w.heap.size + 1 + 1, 2, none⟩ (.map asks)) ((((w5.setCell ⟨g1, k / 8 * 2, none⟩ (.slice (some ⟨w3.heap.size + 1, 0, none⟩) (g.l.length + 1) cp5)).setCell ⟨w.heap.size + 1 + 1, 0, none⟩ (.slice fA first.length fc)).setCell ⟨w.heap.size + 1 + 1, 1, none⟩ (.slice (some ⟨g1, 0, none⟩) logs.length lc')).setCell ⟨w.heap.size + 1 + 1, 2, none⟩ (.map asks)).heap.size 4 (some ⟨w3.heap.size + 1, 0, none⟩) (g.l ++ [((k : Int), x)]).length ((g.l ++ [((k : Int), x)]).flatMap storec)
                  rw [List.length_append, List.flatMap_append, List.flatMap_cons, List.flatMap_nil, List.append_nil]
                  exact Rd.more (Rd.set_off (Rd.set_off (Rd.set_off (Rd.set_off hrd5 (OffC.at (fun e => nw1 e.symm)) _) (OffC.at (fun e => nw0 e.symm)) _) (OffC.at (fun e => nw0 e.symm)) _) (OffC.at (fun e => nw0 e.symm)) _) (by simp)
  all_goals have HRZ := hide (HR.out.below HBZ.out)
  all_goals have HZ : Hid (LinesV.R ((((w5.setCell ⟨g1, k / 8 * 2, none⟩ (.slice (some ⟨w3.heap.size + 1, 0, none⟩) (g.l.length + 1) cp5)).setCell ⟨w.heap.size + 1 + 1, 0, none⟩ (.slice fA first.length fc)).setCell ⟨w.heap.size + 1 + 1, 1, none⟩ (.slice (some ⟨g1, 0, none⟩) logs.length lc')).setCell ⟨w.heap.size + 1 + 1, 2, none⟩ (.map asks)) ⟨fA, fc, first, some ⟨g1, 0, none⟩, lc', logs.set (k / 8) ⟨some ⟨w3.heap.size + 1, 0, none⟩, cp5, g.l ++ [((k : Int), x)], g.kept⟩, asks⟩) := hide (by
                refine ⟨HRZ.out.1, ?_, (fun e => by cases e), ?_, fun y hy => ?_⟩
                · show (logs.set (k / 8) _).length ≤ lc'
                  rw [List.length_set]; exact hlc1
                · show Rd ((((w5.setCell ⟨g1, k / 8 * 2, none⟩ (.slice (some ⟨w3.heap.size + 1, 0, none⟩) (g.l.length + 1) cp5)).setCell ⟨w.heap.size + 1 + 1, 0, none⟩ (.slice fA first.length fc)).setCell ⟨w.heap.size + 1 + 1, 1, none⟩ (.slice (some ⟨g1, 0, none⟩) logs.length lc')).setCell ⟨w.heap.size + 1 + 1, 2, none⟩ (.map asks)) ((((w5.setCell ⟨g1, k / 8 * 2, none⟩ (.slice (some ⟨w3.heap.size + 1, 0, none⟩) (g.l.length + 1) cp5)).setCell ⟨w.heap.size + 1 + 1, 0, none⟩ (.slice fA first.length fc)).setCell ⟨w.heap.size + 1 + 1, 1, none⟩ (.slice (some ⟨g1, 0, none⟩) logs.length lc')).setCell ⟨w.heap.size + 1 + 1, 2, none⟩ (.map asks)).heap.size 2 (some ⟨g1, 0, none⟩) (logs.set (k / 8) ⟨some ⟨w3.heap.size + 1, 0, none⟩, cp5, g.l ++ [((k : Int), x)], g.kept⟩).length _
                  rw [List.length_set]; exact hrl
                · rcases List.mem_or_eq_of_mem_set hy with hy | rfl
                  · exact HRZ.out.2.2.2.2 y hy
                  · exact hrn)
  all_goals clear hrl hrn HRZ hrd5 hown5
  all_goals refine bodyPost_ret (v := .tuple #[.agg #[.slice fA first.length fc, .slice (some ⟨g1, 0, none⟩) logs.length lc', .map asks], .int .i64 0]) (by simp [results, Tryz.results144, go_sem]; (try go_simp)) rfl ⟨g1, lc', w3.heap.size + 1, cp5, rfl, hgw1, hgw2, ?_, ?_⟩
  all_goals first
    | with_reducible exact HZ.out
    | with_reducible exact HBZ.out
end Go.Proofs.YtfdndkgjmmeafaaGreatDoor

