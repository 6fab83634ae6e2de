/- Package redo: Clean. -/
import Derived.Test.YtbomhhkknopdpaaGreatDoorR5
namespace Go.Proofs.YtbomhhkknopdpaaGreatDoor
set_option linter.unusedSimpArgs false
set_option linter.unusedVariables false
open Go.RowKit
def dirty1 (x : W3) : Bool := x.f != 0
def dirty2 (x : W3) : Bool := undecidedW x
def dirty3 (x : W3) : Bool := !(eq3 x z3)
set_option maxRecDepth 100000 in
theorem clo1_any (b n cap p c : Nat) (ws : List W3) (x : W3) (w : World) (hM : Mem b ws w) (hl : ws.length = n) (hnm : n ≤ 1000000) (hx : ws[p]? = some x) (hc : w.cell? ⟨c, 0, none⟩ = some (.slice (some ⟨b, 0, none⟩) n cap)) :
    Calls Tryz.prog 66 #[.int .i64 p, .pointer (some ⟨c, 0, none⟩)] w fun e w' => e = .returned (.bool (dirty1 x)) ∧ Below w.heap.size w w' := by
  have hp := (List.getElem?_eq_some_iff.1 hx).1
  have h0 : (0 : Int) ≤ (p : Int) := by omega
  have h1 : (p : Int) < (n : Int) := by omega
  have s0 := hM.w0 hx
  have s1 := hM.w1 hx
  have s2 := hM.w2 hx
  unfold dirty1
  clear hM hl hx
  go_enter Tryz.func66, Tryz.ntmps66
  go_wp2_with fail
  go_ret
  exact ⟨rfl, (by repeat' (first | with_reducible exact Below.refl _ _ | with_reducible assumption | with_reducible refine Below.alloc ?_ ?_ _ | with_reducible refine Below.setCell ?_ ?_ _ | with_reducible refine Below.drew ?_ | with_reducible refine below_drewN ?_ _ | with_reducible refine Below.trans ?_ (Below.mono (by with_reducible assumption) ?_) | omega | (simp <;> omega)))⟩
set_option maxRecDepth 100000 in
theorem clo2_any (b n cap p c : Nat) (ws : List W3) (x : W3) (w : World) (hM : Mem b ws w) (hl : ws.length = n) (hnm : n ≤ 1000000) (hx : ws[p]? = some x) (hc : w.cell? ⟨c, 0, none⟩ = some (.slice (some ⟨b, 0, none⟩) n cap)) :
    Calls Tryz.prog 67 #[.int .i64 p, .pointer (some ⟨c, 0, none⟩)] w fun e w' => e = .returned (.bool (dirty2 x)) ∧ Below w.heap.size w w' := by
  have hp := (List.getElem?_eq_some_iff.1 hx).1
  have h0 : (0 : Int) ≤ (p : Int) := by omega
  have h1 : (p : Int) < (n : Int) := by omega
  have s0 := hM.w0 hx
  have s1 := hM.w1 hx
  have s2 := hM.w2 hx
  unfold dirty2
  clear hM hl hx
  go_enter Tryz.func67, Tryz.ntmps67
  go_wp2_with (first | (go_at_call 26; refine (undecided_any x _).mono ?_; rintro e' w6 ⟨rfl, hb6⟩))
  go_ret
  exact ⟨rfl, (by repeat' (first | with_reducible exact Below.refl _ _ | with_reducible assumption | with_reducible refine Below.alloc ?_ ?_ _ | with_reducible refine Below.setCell ?_ ?_ _ | with_reducible refine Below.drew ?_ | with_reducible refine below_drewN ?_ _ | with_reducible refine Below.trans ?_ (Below.mono (by with_reducible assumption) ?_) | omega | (simp <;> omega)))⟩
set_option maxRecDepth 100000 in
theorem clo3_any (b n cap p c : Nat) (ws : List W3) (x : W3) (w : World) (hM : Mem b ws w) (hl : ws.length = n) (hnm : n ≤ 1000000) (hx : ws[p]? = some x) (hc : w.cell? ⟨c, 0, none⟩ = some (.slice (some ⟨b, 0, none⟩) n cap)) :
    Calls Tryz.prog 68 #[.int .i64 p, .pointer (some ⟨c, 0, none⟩)] w fun e w' => e = .returned (.bool (dirty3 x)) ∧ Below w.heap.size w w' := by
  have hp := (List.getElem?_eq_some_iff.1 hx).1
  have h0 : (0 : Int) ≤ (p : Int) := by omega
  have h1 : (p : Int) < (n : Int) := by omega
  have s0 := hM.w0 hx
  have s1 := hM.w1 hx
  have s2 := hM.w2 hx
  have hne := neqWord x z3
  unfold dirty3
  simp only [z3] at hne ⊢
  clear hM hl hx
  go_enter Tryz.func68, Tryz.ntmps68
  go_wp2_with fail
  go_ret
  exact ⟨rfl, (by repeat' (first | with_reducible exact Below.refl _ _ | with_reducible assumption | with_reducible refine Below.alloc ?_ ?_ _ | with_reducible refine Below.setCell ?_ ?_ _ | with_reducible refine Below.drew ?_ | with_reducible refine below_drewN ?_ _ | with_reducible refine Below.trans ?_ (Below.mono (by with_reducible assumption) ?_) | omega | (simp <;> omega)))⟩
def anyD1 (ws : List W3) (l : List Int) : Bool := l.any (fun a => dirty1 (ws.getD a.toNat z3))
set_option maxHeartbeats 1000000 in
set_option maxRecDepth 100000 in
theorem index1_any (A : Option Addr) (m capA : Nat) (l : List Int) (b n cap c : Nat) (ws : List W3) (w : World) (hr : Rd w w.heap.size 1 A m (l.map (Value.int .i64))) (hlm : l.length = m) (hm : m ≤ 4096) (hin : ∀ a ∈ l, 0 ≤ a ∧ a < (n : Int)) (hM : Mem b ws w) (hl : ws.length = n) (hnm : n ≤ 1000000) (hc : w.cell? ⟨c, 0, none⟩ = some (.slice (some ⟨b, 0, none⟩) n cap)) :
    Calls Tryz.prog 89 #[.slice A m capA, (.func (.func 66) #[] #[.pointer (some ⟨c, 0, none⟩)])] w fun e' w' => ∃ r : Int, e' = .returned (.int .i64 r) ∧ (decide (0 ≤ r) = anyD1 ws l) ∧ Below w.heap.size w w' := by
  have hz := cell_lt hc
  simp only [] at hz
  have Hr := hide hr
  have Hlm := hide hlm
  have Hin := hide hin
  have HM := hide hM
  have Hl := hide hl
  obtain ⟨R, hR⟩ : ∃ R, R = anyD1 ws l := ⟨_, rfl⟩
  have HR := hide hR
  rw [← hR]
  clear hr hlm hin hM hl hR
  go_enter Tryz.func89, Tryz.ntmps89
  go_wp2_with fail
  go_loopw [8] (fun i wr => ∃ k : Nat, i = .int .i64 k ∧ k ≤ m ∧ (l.take k).any (fun a => dirty1 (ws.getD a.toNat z3)) = false ∧ Below w.heap.size w wr) (fun i _ => m - (intOf i).toNat)
  case atStart => exact ⟨0, rfl, by omega, rfl, (by repeat' (first | with_reducible exact Below.refl _ _ | with_reducible assumption | with_reducible refine Below.alloc ?_ ?_ _ | with_reducible refine Below.setCell ?_ ?_ _ | with_reducible refine Below.drew ?_ | with_reducible refine below_drewN ?_ _ | with_reducible refine Below.trans ?_ (Below.mono (by with_reducible assumption) ?_) | omega | (simp <;> omega)))⟩
  case round =>
    obtain ⟨k, rfl, hk, hno, hB⟩ := hrel
    have hsz := hB.size
    by_cases hlt : k < m
    · obtain ⟨a, ha⟩ : ∃ a, l[k]? = some a := ⟨_, List.getElem?_eq_getElem (by rw [Hlm.out]; omega)⟩
      have hain := Hin.out a (List.mem_of_getElem? ha)
      obtain ⟨p, rfl⟩ : ∃ p : Nat, a = (p : Int) := ⟨a.toNat, by omega⟩
      obtain ⟨bA, off, rfl, hbA, hcA⟩ := rd_int (Hr.out.below hB) hlt ha
      obtain ⟨x, hx⟩ : ∃ x, ws[p]? = some x := ⟨_, List.getElem?_eq_getElem (by rw [Hl.out]; omega)⟩
      have hcr : wr.cell? ⟨c, 0, none⟩ = some (.slice (some ⟨b, 0, none⟩) n cap) := (hB.cell (p := ⟨c, 0, none⟩) hz).trans hc
      have hx0 : ws.getD p z3 = x := by rw [List.getD_eq_getElem?_getD, hx]; rfl
      have hki : (0 : Int) ≤ (k : Int) := by omega
      have hkj : (k : Int) < (m : Int) := by omega
      have hstep : (l.take (k + 1)).any (fun a => dirty1 (ws.getD a.toNat z3)) = dirty1 x := by
        rw [List.take_add_one, List.any_append, hno, ha]
        simp only [Option.toList_some, List.any_cons, List.any_nil, Bool.or_false, Bool.false_or, Int.toNat_natCast, hx0]
      have Hst := hide hstep
      have Hx := hide hx
      have HMr := hide (HM.out.grow hB)
      clear hstep hx hx0 ha hno
      cases hq : dirty1 x with
      | true =>
        go_wp2_with (first | (go_at_call 66; refine (clo1_any b n cap p c ws x _ HMr.out Hl.out hnm Hx.out hcr).mono ?_; rintro e1 w1 ⟨rfl, hb1⟩; rw [hq]))
        go_ret
        refine ⟨k, rfl, ?_, (by repeat' (first | with_reducible exact Below.refl _ _ | with_reducible assumption | with_reducible refine Below.alloc ?_ ?_ _ | with_reducible refine Below.setCell ?_ ?_ _ | with_reducible refine Below.drew ?_ | with_reducible refine below_drewN ?_ _ | with_reducible refine Below.trans ?_ (Below.mono (by with_reducible assumption) ?_) | omega | (simp <;> omega)))⟩
        rw [decide_eq_true (by omega), HR.out]
        have h2 := Hst.out
        rw [hq] at h2
        symm
        unfold anyD1
        rw [List.any_eq_true] at h2 ⊢
        obtain ⟨x, hx, hxe⟩ := h2
        exact ⟨x, List.mem_of_mem_take hx, hxe⟩
      | false =>
        go_wp2_with (first | (go_at_call 66; refine (clo1_any b n cap p c ws x _ HMr.out Hl.out hnm Hx.out hcr).mono ?_; rintro e1 w1 ⟨rfl, hb1⟩; rw [hq]))
        exact ⟨⟨k + 1, by go_num, by omega, by rw [Hst.out, hq], (by repeat' (first | with_reducible exact Below.refl _ _ | with_reducible assumption | with_reducible refine Below.alloc ?_ ?_ _ | with_reducible refine Below.setCell ?_ ?_ _ | with_reducible refine Below.drew ?_ | with_reducible refine below_drewN ?_ _ | with_reducible refine Below.trans ?_ (Below.mono (by with_reducible assumption) ?_) | omega | (simp <;> omega)))⟩, by simp [intOf]; omega⟩
    · obtain rfl : m = k := by omega
      go_wp2_with fail
      go_ret
      refine ⟨-1, rfl, ?_, (by repeat' (first | with_reducible exact Below.refl _ _ | with_reducible assumption | with_reducible refine Below.alloc ?_ ?_ _ | with_reducible refine Below.setCell ?_ ?_ _ | with_reducible refine Below.drew ?_ | with_reducible refine below_drewN ?_ _ | with_reducible refine Below.trans ?_ (Below.mono (by with_reducible assumption) ?_) | omega | (simp <;> omega)))⟩
      rw [HR.out]
      unfold anyD1
      rw [List.take_of_length_le (by rw [Hlm.out]; exact Nat.le_refl _)] at hno
      rw [hno]
      rfl
theorem contains1_any (A : Option Addr) (m capA : Nat) (l : List Int) (b n cap c : Nat) (ws : List W3) (w : World) (hr : Rd w w.heap.size 1 A m (l.map (Value.int .i64))) (hlm : l.length = m) (hm : m ≤ 4096) (hin : ∀ a ∈ l, 0 ≤ a ∧ a < (n : Int)) (hM : Mem b ws w) (hl : ws.length = n) (hnm : n ≤ 1000000) (hc : w.cell? ⟨c, 0, none⟩ = some (.slice (some ⟨b, 0, none⟩) n cap)) :
    Calls Tryz.prog 65 #[.slice A m capA, (.func (.func 66) #[] #[.pointer (some ⟨c, 0, none⟩)])] w fun e' w' => e' = .returned (.bool (anyD1 ws l)) ∧ Below w.heap.size w w' := by
  have Hi := hide (index1_any A m capA l b n cap c ws w hr hlm hm hin hM hl hnm hc)
  clear hr hlm hin hM hl hc
  go_enter Tryz.func65, Tryz.ntmps65
  go_wp2_with (first | (go_at_call 89; refine Hi.out.mono ?_; rintro e1 w1 ⟨r, rfl, hq, hb1⟩; have Hq := hide hq; clear hq))
  go_ret
  exact ⟨by rw [← Hq.out]; rfl, (by repeat' (first | with_reducible exact Below.refl _ _ | with_reducible assumption | with_reducible refine Below.alloc ?_ ?_ _ | with_reducible refine Below.setCell ?_ ?_ _ | with_reducible refine Below.drew ?_ | with_reducible refine below_drewN ?_ _ | with_reducible refine Below.trans ?_ (Below.mono (by with_reducible assumption) ?_) | omega | (simp <;> omega)))⟩
def anyD2 (ws : List W3) (l : List Int) : Bool := l.any (fun a => dirty2 (ws.getD a.toNat z3))
set_option maxHeartbeats 1000000 in
set_option maxRecDepth 100000 in
theorem index2_any (A : Option Addr) (m capA : Nat) (l : List Int) (b n cap c : Nat) (ws : List W3) (w : World) (hr : Rd w w.heap.size 1 A m (l.map (Value.int .i64))) (hlm : l.length = m) (hm : m ≤ 4096) (hin : ∀ a ∈ l, 0 ≤ a ∧ a < (n : Int)) (hM : Mem b ws w) (hl : ws.length = n) (hnm : n ≤ 1000000) (hc : w.cell? ⟨c, 0, none⟩ = some (.slice (some ⟨b, 0, none⟩) n cap)) :
    Calls Tryz.prog 89 #[.slice A m capA, (.func (.func 67) #[] #[.pointer (some ⟨c, 0, none⟩)])] w fun e' w' => ∃ r : Int, e' = .returned (.int .i64 r) ∧ (decide (0 ≤ r) = anyD2 ws l) ∧ Below w.heap.size w w' := by
  have hz := cell_lt hc
  simp only [] at hz
  have Hr := hide hr
  have Hlm := hide hlm
  have Hin := hide hin
  have HM := hide hM
  have Hl := hide hl
  obtain ⟨R, hR⟩ : ∃ R, R = anyD2 ws l := ⟨_, rfl⟩
  have HR := hide hR
  rw [← hR]
  clear hr hlm hin hM hl hR
  go_enter Tryz.func89, Tryz.ntmps89
  go_wp2_with fail
  go_loopw [8] (fun i wr => ∃ k : Nat, i = .int .i64 k ∧ k ≤ m ∧ (l.take k).any (fun a => dirty2 (ws.getD a.toNat z3)) = false ∧ Below w.heap.size w wr) (fun i _ => m - (intOf i).toNat)
  case atStart => exact ⟨0, rfl, by omega, rfl, (by repeat' (first | with_reducible exact Below.refl _ _ | with_reducible assumption | with_reducible refine Below.alloc ?_ ?_ _ | with_reducible refine Below.setCell ?_ ?_ _ | with_reducible refine Below.drew ?_ | with_reducible refine below_drewN ?_ _ | with_reducible refine Below.trans ?_ (Below.mono (by with_reducible assumption) ?_) | omega | (simp <;> omega)))⟩
  case round =>
    obtain ⟨k, rfl, hk, hno, hB⟩ := hrel
    have hsz := hB.size
    by_cases hlt : k < m
    · obtain ⟨a, ha⟩ : ∃ a, l[k]? = some a := ⟨_, List.getElem?_eq_getElem (by rw [Hlm.out]; omega)⟩
      have hain := Hin.out a (List.mem_of_getElem? ha)
      obtain ⟨p, rfl⟩ : ∃ p : Nat, a = (p : Int) := ⟨a.toNat, by omega⟩
      obtain ⟨bA, off, rfl, hbA, hcA⟩ := rd_int (Hr.out.below hB) hlt ha
      obtain ⟨x, hx⟩ : ∃ x, ws[p]? = some x := ⟨_, List.getElem?_eq_getElem (by rw [Hl.out]; omega)⟩
      have hcr : wr.cell? ⟨c, 0, none⟩ = some (.slice (some ⟨b, 0, none⟩) n cap) := (hB.cell (p := ⟨c, 0, none⟩) hz).trans hc
      have hx0 : ws.getD p z3 = x := by rw [List.getD_eq_getElem?_getD, hx]; rfl
      have hki : (0 : Int) ≤ (k : Int) := by omega
      have hkj : (k : Int) < (m : Int) := by omega
      have hstep : (l.take (k + 1)).any (fun a => dirty2 (ws.getD a.toNat z3)) = dirty2 x := by
        rw [List.take_add_one, List.any_append, hno, ha]
        simp only [Option.toList_some, List.any_cons, List.any_nil, Bool.or_false, Bool.false_or, Int.toNat_natCast, hx0]
      have Hst := hide hstep
      have Hx := hide hx
      have HMr := hide (HM.out.grow hB)
      clear hstep hx hx0 ha hno
      cases hq : dirty2 x with
      | true =>
        go_wp2_with (first | (go_at_call 67; refine (clo2_any b n cap p c ws x _ HMr.out Hl.out hnm Hx.out hcr).mono ?_; rintro e1 w1 ⟨rfl, hb1⟩; rw [hq]))
        go_ret
        refine ⟨k, rfl, ?_, (by repeat' (first | with_reducible exact Below.refl _ _ | with_reducible assumption | with_reducible refine Below.alloc ?_ ?_ _ | with_reducible refine Below.setCell ?_ ?_ _ | with_reducible refine Below.drew ?_ | with_reducible refine below_drewN ?_ _ | with_reducible refine Below.trans ?_ (Below.mono (by with_reducible assumption) ?_) | omega | (simp <;> omega)))⟩
        rw [decide_eq_true (by omega), HR.out]
        have h2 := Hst.out
        rw [hq] at h2
        symm
        unfold anyD2
        rw [List.any_eq_true] at h2 ⊢
        obtain ⟨x, hx, hxe⟩ := h2
        exact ⟨x, List.mem_of_mem_take hx, hxe⟩
      | false =>
        go_wp2_with (first | (go_at_call 67; refine (clo2_any b n cap p c ws x _ HMr.out Hl.out hnm Hx.out hcr).mono ?_; rintro e1 w1 ⟨rfl, hb1⟩; rw [hq]))
        exact ⟨⟨k + 1, by go_num, by omega, by rw [Hst.out, hq], (by repeat' (first | with_reducible exact Below.refl _ _ | with_reducible assumption | with_reducible refine Below.alloc ?_ ?_ _ | with_reducible refine Below.setCell ?_ ?_ _ | with_reducible refine Below.drew ?_ | with_reducible refine below_drewN ?_ _ | with_reducible refine Below.trans ?_ (Below.mono (by with_reducible assumption) ?_) | omega | (simp <;> omega)))⟩, by simp [intOf]; omega⟩
    · obtain rfl : m = k := by omega
      go_wp2_with fail
      go_ret
      refine ⟨-1, rfl, ?_, (by repeat' (first | with_reducible exact Below.refl _ _ | with_reducible assumption | with_reducible refine Below.alloc ?_ ?_ _ | with_reducible refine Below.setCell ?_ ?_ _ | with_reducible refine Below.drew ?_ | with_reducible refine below_drewN ?_ _ | with_reducible refine Below.trans ?_ (Below.mono (by with_reducible assumption) ?_) | omega | (simp <;> omega)))⟩
      rw [HR.out]
      unfold anyD2
      rw [List.take_of_length_le (by rw [Hlm.out]; exact Nat.le_refl _)] at hno
      rw [hno]
      rfl
theorem contains2_any (A : Option Addr) (m capA : Nat) (l : List Int) (b n cap c : Nat) (ws : List W3) (w : World) (hr : Rd w w.heap.size 1 A m (l.map (Value.int .i64))) (hlm : l.length = m) (hm : m ≤ 4096) (hin : ∀ a ∈ l, 0 ≤ a ∧ a < (n : Int)) (hM : Mem b ws w) (hl : ws.length = n) (hnm : n ≤ 1000000) (hc : w.cell? ⟨c, 0, none⟩ = some (.slice (some ⟨b, 0, none⟩) n cap)) :
    Calls Tryz.prog 65 #[.slice A m capA, (.func (.func 67) #[] #[.pointer (some ⟨c, 0, none⟩)])] w fun e' w' => e' = .returned (.bool (anyD2 ws l)) ∧ Below w.heap.size w w' := by
  have Hi := hide (index2_any A m capA l b n cap c ws w hr hlm hm hin hM hl hnm hc)
  clear hr hlm hin hM hl hc
  go_enter Tryz.func65, Tryz.ntmps65
  go_wp2_with (first | (go_at_call 89; refine Hi.out.mono ?_; rintro e1 w1 ⟨r, rfl, hq, hb1⟩; have Hq := hide hq; clear hq))
  go_ret
  exact ⟨by rw [← Hq.out]; rfl, (by repeat' (first | with_reducible exact Below.refl _ _ | with_reducible assumption | with_reducible refine Below.alloc ?_ ?_ _ | with_reducible refine Below.setCell ?_ ?_ _ | with_reducible refine Below.drew ?_ | with_reducible refine below_drewN ?_ _ | with_reducible refine Below.trans ?_ (Below.mono (by with_reducible assumption) ?_) | omega | (simp <;> omega)))⟩
def anyD3 (ws : List W3) (l : List Int) : Bool := l.any (fun a => dirty3 (ws.getD a.toNat z3))
set_option maxHeartbeats 1000000 in
set_option maxRecDepth 100000 in
theorem index3_any (A : Option Addr) (m capA : Nat) (l : List Int) (b n cap c : Nat) (ws : List W3) (w : World) (hr : Rd w w.heap.size 1 A m (l.map (Value.int .i64))) (hlm : l.length = m) (hm : m ≤ 4096) (hin : ∀ a ∈ l, 0 ≤ a ∧ a < (n : Int)) (hM : Mem b ws w) (hl : ws.length = n) (hnm : n ≤ 1000000) (hc : w.cell? ⟨c, 0, none⟩ = some (.slice (some ⟨b, 0, none⟩) n cap)) :
    Calls Tryz.prog 89 #[.slice A m capA, (.func (.func 68) #[] #[.pointer (some ⟨c, 0, none⟩)])] w fun e' w' => ∃ r : Int, e' = .returned (.int .i64 r) ∧ (decide (0 ≤ r) = anyD3 ws l) ∧ Below w.heap.size w w' := by
  have hz := cell_lt hc
  simp only [] at hz
  have Hr := hide hr
  have Hlm := hide hlm
  have Hin := hide hin
  have HM := hide hM
  have Hl := hide hl
  obtain ⟨R, hR⟩ : ∃ R, R = anyD3 ws l := ⟨_, rfl⟩
  have HR := hide hR
  rw [← hR]
  clear hr hlm hin hM hl hR
  go_enter Tryz.func89, Tryz.ntmps89
  go_wp2_with fail
  go_loopw [8] (fun i wr => ∃ k : Nat, i = .int .i64 k ∧ k ≤ m ∧ (l.take k).any (fun a => dirty3 (ws.getD a.toNat z3)) = false ∧ Below w.heap.size w wr) (fun i _ => m - (intOf i).toNat)
  case atStart => exact ⟨0, rfl, by omega, rfl, (by repeat' (first | with_reducible exact Below.refl _ _ | with_reducible assumption | with_reducible refine Below.alloc ?_ ?_ _ | with_reducible refine Below.setCell ?_ ?_ _ | with_reducible refine Below.drew ?_ | with_reducible refine below_drewN ?_ _ | with_reducible refine Below.trans ?_ (Below.mono (by with_reducible assumption) ?_) | omega | (simp <;> omega)))⟩
  case round =>
    obtain ⟨k, rfl, hk, hno, hB⟩ := hrel
    have hsz := hB.size
    by_cases hlt : k < m
    · obtain ⟨a, ha⟩ : ∃ a, l[k]? = some a := ⟨_, List.getElem?_eq_getElem (by rw [Hlm.out]; omega)⟩
      have hain := Hin.out a (List.mem_of_getElem? ha)
      obtain ⟨p, rfl⟩ : ∃ p : Nat, a = (p : Int) := ⟨a.toNat, by omega⟩
      obtain ⟨bA, off, rfl, hbA, hcA⟩ := rd_int (Hr.out.below hB) hlt ha
      obtain ⟨x, hx⟩ : ∃ x, ws[p]? = some x := ⟨_, List.getElem?_eq_getElem (by rw [Hl.out]; omega)⟩
      have hcr : wr.cell? ⟨c, 0, none⟩ = some (.slice (some ⟨b, 0, none⟩) n cap) := (hB.cell (p := ⟨c, 0, none⟩) hz).trans hc
      have hx0 : ws.getD p z3 = x := by rw [List.getD_eq_getElem?_getD, hx]; rfl
      have hki : (0 : Int) ≤ (k : Int) := by omega
      have hkj : (k : Int) < (m : Int) := by omega
      have hstep : (l.take (k + 1)).any (fun a => dirty3 (ws.getD a.toNat z3)) = dirty3 x := by
        rw [List.take_add_one, List.any_append, hno, ha]
        simp only [Option.toList_some, List.any_cons, List.any_nil, Bool.or_false, Bool.false_or, Int.toNat_natCast, hx0]
      have Hst := hide hstep
      have Hx := hide hx
      have HMr := hide (HM.out.grow hB)
      clear hstep hx hx0 ha hno
      cases hq : dirty3 x with
      | true =>
        go_wp2_with (first | (go_at_call 68; refine (clo3_any b n cap p c ws x _ HMr.out Hl.out hnm Hx.out hcr).mono ?_; rintro e1 w1 ⟨rfl, hb1⟩; rw [hq]))
        go_ret
        refine ⟨k, rfl, ?_, (by repeat' (first | with_reducible exact Below.refl _ _ | with_reducible assumption | with_reducible refine Below.alloc ?_ ?_ _ | with_reducible refine Below.setCell ?_ ?_ _ | with_reducible refine Below.drew ?_ | with_reducible refine below_drewN ?_ _ | with_reducible refine Below.trans ?_ (Below.mono (by with_reducible assumption) ?_) | omega | (simp <;> omega)))⟩
        rw [decide_eq_true (by omega), HR.out]
        have h2 := Hst.out
        rw [hq] at h2
        symm
        unfold anyD3
        rw [List.any_eq_true] at h2 ⊢
        obtain ⟨x, hx, hxe⟩ := h2
        exact ⟨x, List.mem_of_mem_take hx, hxe⟩
      | false =>
        go_wp2_with (first | (go_at_call 68; refine (clo3_any b n cap p c ws x _ HMr.out Hl.out hnm Hx.out hcr).mono ?_; rintro e1 w1 ⟨rfl, hb1⟩; rw [hq]))
        exact ⟨⟨k + 1, by go_num, by omega, by rw [Hst.out, hq], (by repeat' (first | with_reducible exact Below.refl _ _ | with_reducible assumption | with_reducible refine Below.alloc ?_ ?_ _ | with_reducible refine Below.setCell ?_ ?_ _ | with_reducible refine Below.drew ?_ | with_reducible refine below_drewN ?_ _ | with_reducible refine Below.trans ?_ (Below.mono (by with_reducible assumption) ?_) | omega | (simp <;> omega)))⟩, by simp [intOf]; omega⟩
    · obtain rfl : m = k := by omega
      go_wp2_with fail
      go_ret
      refine ⟨-1, rfl, ?_, (by repeat' (first | with_reducible exact Below.refl _ _ | with_reducible assumption | with_reducible refine Below.alloc ?_ ?_ _ | with_reducible refine Below.setCell ?_ ?_ _ | with_reducible refine Below.drew ?_ | with_reducible refine below_drewN ?_ _ | with_reducible refine Below.trans ?_ (Below.mono (by with_reducible assumption) ?_) | omega | (simp <;> omega)))⟩
      rw [HR.out]
      unfold anyD3
      rw [List.take_of_length_le (by rw [Hlm.out]; exact Nat.le_refl _)] at hno
      rw [hno]
      rfl
theorem contains3_any (A : Option Addr) (m capA : Nat) (l : List Int) (b n cap c : Nat) (ws : List W3) (w : World) (hr : Rd w w.heap.size 1 A m (l.map (Value.int .i64))) (hlm : l.length = m) (hm : m ≤ 4096) (hin : ∀ a ∈ l, 0 ≤ a ∧ a < (n : Int)) (hM : Mem b ws w) (hl : ws.length = n) (hnm : n ≤ 1000000) (hc : w.cell? ⟨c, 0, none⟩ = some (.slice (some ⟨b, 0, none⟩) n cap)) :
    Calls Tryz.prog 65 #[.slice A m capA, (.func (.func 68) #[] #[.pointer (some ⟨c, 0, none⟩)])] w fun e' w' => e' = .returned (.bool (anyD3 ws l)) ∧ Below w.heap.size w w' := by
  have Hi := hide (index3_any A m capA l b n cap c ws w hr hlm hm hin hM hl hnm hc)
  clear hr hlm hin hM hl hc
  go_enter Tryz.func65, Tryz.ntmps65
  go_wp2_with (first | (go_at_call 89; refine Hi.out.mono ?_; rintro e1 w1 ⟨r, rfl, hq, hb1⟩; have Hq := hide hq; clear hq))
  go_ret
  exact ⟨by rw [← Hq.out]; rfl, (by repeat' (first | with_reducible exact Below.refl _ _ | with_reducible assumption | with_reducible refine Below.alloc ?_ ?_ _ | with_reducible refine Below.setCell ?_ ?_ _ | with_reducible refine Below.drew ?_ | with_reducible refine below_drewN ?_ _ | with_reducible refine Below.trans ?_ (Below.mono (by with_reducible assumption) ?_) | omega | (simp <;> omega)))⟩
/-- The words need no recovery. -/
def cleanL (T C B : Int) (ws : List W3) : Bool := !anyD1 ws (mayLs T C B) && !anyD2 ws (statusesL T C B) && !anyD3 ws (ownLs T C B)
theorem mayLs_len {T C B : Int} (hv : Valid T C B) : (mayLs T C B).length ≤ 4096 := by
  have h1 := mayTo_len T C B (fromL T C B 7).toNat
  have h2 := hv.2
  unfold mayLs
  omega
theorem statusesL_len {T C B : Int} (hv : Valid T C B) : (statusesL T C B).length ≤ 4096 := by
  unfold statusesL
  rw [List.length_append, slotsTo_len, blocksTo_len]
  obtain ⟨f1, f2, f3, f4, f5, f6⟩ := hv.1
  omega
theorem ownLs_len {T C B : Int} (hv : Valid T C B) : (ownLs T C B).length ≤ 4096 := by
  unfold ownLs
  rw [ownTo_len]
  obtain ⟨f1, f2, f3, f4, f5, f6⟩ := hv.1
  omega
set_option maxHeartbeats 4000000 in
set_option maxRecDepth 100000 in
theorem clean_ok (T C B : Int) (b n cap : Nat) (ws : List W3) (w : World) (hv : Valid T C B) (hs : Sizes w) (hM : Mem b ws w) (hl : ws.length = n) (hnm : n ≤ 1000000) (hn : fromL T C B 7 = (n : Int)) :
    Calls Tryz.prog 41 #[(.agg #[.int .i64 T, .int .i64 C, .int .i64 B]), .slice (some ⟨b, 0, none⟩) n cap] w fun e w' => e = .returned (.bool (cleanL T C B ws)) ∧ Below w.heap.size w w' := by
  have hpos := hs.pos
  have hb := hM.2.2
  have HN := hide hn
  have HM := hide hM
  have Hl := hide hl
  have hnn : ¬ ((n : Int) < (n : Int)) := by omega
  have Hl1 := hide (mayLs_len hv)
  have Hl2 := hide (statusesL_len hv)
  have Hl3 := hide (ownLs_len hv)
  have Hi1 : Hid (∀ a ∈ mayLs T C B, 0 ≤ a ∧ a < (n : Int)) := hide (fun a ha => by have h := may_in hv (mayLs_in ha); omega)
  have Hi2 : Hid (∀ a ∈ statusesL T C B, 0 ≤ a ∧ a < (n : Int)) := hide (fun a ha => by have h := statuses_in hv ha; omega)
  have Hi3 : Hid (∀ a ∈ ownLs T C B, 0 ≤ a ∧ a < (n : Int)) := hide (fun a ha => by have h := ownLs_in hv ha; omega)
  unfold cleanL
  obtain ⟨c1, hc1⟩ : ∃ c, anyD1 ws (mayLs T C B) = c := ⟨_, rfl⟩
  obtain ⟨c2, hc2⟩ : ∃ c, anyD2 ws (statusesL T C B) = c := ⟨_, rfl⟩
  obtain ⟨c3, hc3⟩ : ∃ c, anyD3 ws (ownLs T C B) = c := ⟨_, rfl⟩
  rw [hc1, hc2, hc3]
  have HC1 := hide hc1
  have HC2 := hide hc2
  have HC3 := hide hc3
  clear hM hl hn hc1 hc2 hc3
  go_enter Tryz.func41, Tryz.ntmps41
  go_wp2_with fail
  go_region_held3 (fun w' => w'.cell? ⟨w.heap.size, 0, none⟩ = some (.int .i64 T) ∧ w'.cell? ⟨w.heap.size, 1, none⟩ = some (.int .i64 C) ∧ w'.cell? ⟨w.heap.size, 2, none⟩ = some (.int .i64 B) ∧ w'.cell? ⟨w.heap.size + 1, 0, none⟩ = some (.slice (some ⟨b, 0, none⟩) n cap))
    (first | exact ⟨by go_simp, by go_simp, by go_simp, by go_simp⟩ | go_keep)
    (first
      | (go_at_call 12; refine (check_ok T C B _ hv (hs.below (by repeat' (first | with_reducible exact Below.refl _ _ | with_reducible assumption | with_reducible refine Below.alloc ?_ ?_ _ | with_reducible refine Below.setCell ?_ ?_ _ | with_reducible refine Below.drew ?_ | with_reducible refine below_drewN ?_ _ | with_reducible refine Below.trans ?_ (Below.mono (by with_reducible assumption) ?_) | omega | (simp <;> omega))))).mono ?_; rintro e w1 ⟨rfl, hb1'⟩; have hb1 : Below _ _ w1 := (by first | with_reducible exact noDrew hb1' | exact hb1'); clear hb1'; obtain ⟨hcc1, hff1⟩ := bcell hb1; have hs1 := hb1.size; (try simp at hs1); have hz1 : w.heap.size < w1.heap.size := (by omega); have hy1 : w.heap.size + 1 < w1.heap.size := (by omega); have hq1 : 0 < w1.heap.size := (by omega))
      | (go_at_call 21; refine (size_ok T C B _ hv (hs.below (by repeat' (first | with_reducible exact Below.refl _ _ | with_reducible assumption | with_reducible refine Below.alloc ?_ ?_ _ | with_reducible refine Below.setCell ?_ ?_ _ | with_reducible refine Below.drew ?_ | with_reducible refine below_drewN ?_ _ | with_reducible refine Below.trans ?_ (Below.mono (by with_reducible assumption) ?_) | omega | (simp <;> omega))))).mono ?_; rintro e w2 ⟨rfl, hb2'⟩; rw [HN.out]; have hb2 : Below _ _ w2 := (by first | with_reducible exact noDrew hb2' | exact hb2'); clear hb2'; obtain ⟨hcc2, hff2⟩ := bcell hb2; have hs2 := hb2.size; (try simp at hs2); have hz2 : w.heap.size < w2.heap.size := (by omega); have hy2 : w.heap.size + 1 < w2.heap.size := (by omega); have hq2 : 0 < w2.heap.size := (by omega)))
  all_goals cases c1
  all_goals cases c2
  all_goals cases c3
  all_goals go_wp2_with (first
      | (go_at_call 23; refine (may_list T C B _ hv (hs.below (by repeat' (first | with_reducible exact Below.refl _ _ | with_reducible assumption | with_reducible refine Below.alloc ?_ ?_ _ | with_reducible refine Below.setCell ?_ ?_ _ | with_reducible refine Below.drew ?_ | with_reducible refine below_drewN ?_ _ | with_reducible refine Below.trans ?_ (Below.mono (by with_reducible assumption) ?_) | omega | (simp <;> omega))))).mono ?_; rintro e w3 ⟨Aw3, capAw3, rfl, hAw3, -, hbw3⟩; obtain ⟨hccw3, hffw3⟩ := bcell hbw3; have hsw3 := hbw3.size; (try simp at hsw3); have hzw3 : w.heap.size < w3.heap.size := (by omega); have hyw3 : w.heap.size + 1 < w3.heap.size := (by omega); have hrw3 : Hid (Rd w3 w3.heap.size 1 Aw3 _ _) := hAw3; clear hAw3)
      | (go_at_call 65; with_reducible refine (contains1_any _ _ _ (mayLs T C B) b n cap _ ws _ ((hrw3.out.below (by repeat' (first | with_reducible exact Below.refl _ _ | with_reducible assumption | with_reducible refine Below.alloc ?_ ?_ _ | with_reducible refine Below.setCell ?_ ?_ _ | with_reducible refine Below.drew ?_ | with_reducible refine below_drewN ?_ _ | with_reducible refine Below.trans ?_ (Below.mono (by with_reducible assumption) ?_) | omega | (simp <;> omega)))).more (by omega)) rfl (Hl1.out) (Hi1.out) (HM.out.grow (by repeat' (first | with_reducible exact Below.refl _ _ | with_reducible assumption | with_reducible refine Below.alloc ?_ ?_ _ | with_reducible refine Below.setCell ?_ ?_ _ | with_reducible refine Below.drew ?_ | with_reducible refine below_drewN ?_ _ | with_reducible refine Below.trans ?_ (Below.mono (by with_reducible assumption) ?_) | omega | (simp <;> omega)))) Hl.out hnm (by go_simp)).mono ?_; rintro e w4 ⟨rfl, hbw4⟩; rw [HC1.out]; obtain ⟨hccw4, hffw4⟩ := bcell hbw4; have hsw4 := hbw4.size; (try simp at hsw4); have hzw4 : w.heap.size < w4.heap.size := (by omega); have hyw4 : w.heap.size + 1 < w4.heap.size := (by omega))
      | (go_at_call 25; refine (statuses_list T C B _ hv (hs.below (by repeat' (first | with_reducible exact Below.refl _ _ | with_reducible assumption | with_reducible refine Below.alloc ?_ ?_ _ | with_reducible refine Below.setCell ?_ ?_ _ | with_reducible refine Below.drew ?_ | with_reducible refine below_drewN ?_ _ | with_reducible refine Below.trans ?_ (Below.mono (by with_reducible assumption) ?_) | omega | (simp <;> omega))))).mono ?_; rintro e w5 ⟨Aw5, capAw5, rfl, hAw5, -, hbw5⟩; obtain ⟨hccw5, hffw5⟩ := bcell hbw5; have hsw5 := hbw5.size; (try simp at hsw5); have hzw5 : w.heap.size < w5.heap.size := (by omega); have hyw5 : w.heap.size + 1 < w5.heap.size := (by omega); have hrw5 : Hid (Rd w5 w5.heap.size 1 Aw5 _ _) := hAw5; clear hAw5)
      | (go_at_call 65; with_reducible refine (contains2_any _ _ _ (statusesL T C B) b n cap _ ws _ ((hrw5.out.below (by repeat' (first | with_reducible exact Below.refl _ _ | with_reducible assumption | with_reducible refine Below.alloc ?_ ?_ _ | with_reducible refine Below.setCell ?_ ?_ _ | with_reducible refine Below.drew ?_ | with_reducible refine below_drewN ?_ _ | with_reducible refine Below.trans ?_ (Below.mono (by with_reducible assumption) ?_) | omega | (simp <;> omega)))).more (by omega)) rfl (Hl2.out) (Hi2.out) (HM.out.grow (by repeat' (first | with_reducible exact Below.refl _ _ | with_reducible assumption | with_reducible refine Below.alloc ?_ ?_ _ | with_reducible refine Below.setCell ?_ ?_ _ | with_reducible refine Below.drew ?_ | with_reducible refine below_drewN ?_ _ | with_reducible refine Below.trans ?_ (Below.mono (by with_reducible assumption) ?_) | omega | (simp <;> omega)))) Hl.out hnm (by go_simp)).mono ?_; rintro e w6 ⟨rfl, hbw6⟩; rw [HC2.out]; obtain ⟨hccw6, hffw6⟩ := bcell hbw6; have hsw6 := hbw6.size; (try simp at hsw6); have hzw6 : w.heap.size < w6.heap.size := (by omega); have hyw6 : w.heap.size + 1 < w6.heap.size := (by omega))
      | (go_at_call 28; refine (own_list T C B _ hv (hs.below (by repeat' (first | with_reducible exact Below.refl _ _ | with_reducible assumption | with_reducible refine Below.alloc ?_ ?_ _ | with_reducible refine Below.setCell ?_ ?_ _ | with_reducible refine Below.drew ?_ | with_reducible refine below_drewN ?_ _ | with_reducible refine Below.trans ?_ (Below.mono (by with_reducible assumption) ?_) | omega | (simp <;> omega))))).mono ?_; rintro e w7 ⟨Aw7, capAw7, rfl, hAw7, -, hbw7⟩; obtain ⟨hccw7, hffw7⟩ := bcell hbw7; have hsw7 := hbw7.size; (try simp at hsw7); have hzw7 : w.heap.size < w7.heap.size := (by omega); have hyw7 : w.heap.size + 1 < w7.heap.size := (by omega); have hrw7 : Hid (Rd w7 w7.heap.size 1 Aw7 _ _) := hAw7; clear hAw7)
      | (go_at_call 65; with_reducible refine (contains3_any _ _ _ (ownLs T C B) b n cap _ ws _ ((hrw7.out.below (by repeat' (first | with_reducible exact Below.refl _ _ | with_reducible assumption | with_reducible refine Below.alloc ?_ ?_ _ | with_reducible refine Below.setCell ?_ ?_ _ | with_reducible refine Below.drew ?_ | with_reducible refine below_drewN ?_ _ | with_reducible refine Below.trans ?_ (Below.mono (by with_reducible assumption) ?_) | omega | (simp <;> omega)))).more (by omega)) rfl (Hl3.out) (Hi3.out) (HM.out.grow (by repeat' (first | with_reducible exact Below.refl _ _ | with_reducible assumption | with_reducible refine Below.alloc ?_ ?_ _ | with_reducible refine Below.setCell ?_ ?_ _ | with_reducible refine Below.drew ?_ | with_reducible refine below_drewN ?_ _ | with_reducible refine Below.trans ?_ (Below.mono (by with_reducible assumption) ?_) | omega | (simp <;> omega)))) Hl.out hnm (by go_simp)).mono ?_; rintro e w8 ⟨rfl, hbw8⟩; rw [HC3.out]; obtain ⟨hccw8, hffw8⟩ := bcell hbw8; have hsw8 := hbw8.size; (try simp at hsw8); have hzw8 : w.heap.size < w8.heap.size := (by omega); have hyw8 : w.heap.size + 1 < w8.heap.size := (by omega)))
  all_goals go_ret
  all_goals exact ⟨rfl, (by repeat' (first | with_reducible exact Below.refl _ _ | with_reducible assumption | with_reducible refine Below.alloc ?_ ?_ _ | with_reducible refine Below.setCell ?_ ?_ _ | with_reducible refine Below.drew ?_ | with_reducible refine below_drewN ?_ _ | with_reducible refine Below.trans ?_ (Below.mono (by with_reducible assumption) ?_) | omega | (simp <;> omega)))⟩
end Go.Proofs.YtbomhhkknopdpaaGreatDoor
