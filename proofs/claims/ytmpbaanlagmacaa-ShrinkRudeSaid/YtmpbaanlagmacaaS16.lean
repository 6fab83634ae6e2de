/- The law's rude predicate, and the nil predicate. -/
import Derived.Test.YtmpbaanlagmacaaS12
namespace Go.Proofs.Ytmpbaanlagmacaa
open Go.RowKit

theorem rude_nil (v : Value) (w : World) : (nilAhead 220 85 v "Bad").run Try.prog w = .ok (some false) w := by kernel_rfl
theorem rude_method (v : Value) (w : World) : (method 220 85 v "Bad").run Try.prog w = .ok (74, v) w := by kernel_rfl
theorem rude_enter (args : Array Value) (w : World) : (callFunc 74 args).run Try.prog w = .ok (.enter 74 args) w := by rfl
theorem nil_nil (w : World) : (binOp .eql 94 .nilIface .nilIface).run Try.prog w = .ok (.bool true) w := by kernel_rfl

/-- A block whose first cells can be written. -/
def RowG (g m : Nat) (w : World) : Prop := ∀ j, j < m → (∃ u, w.cell? ⟨g, j, none⟩ = some u) ∧ w.frozen? ⟨g, j, none⟩ = false
theorem RowG.set {g m : Nat} {w : World} (h : RowG g m w) (a : Addr) (x : Value) : RowG g m (w.setCell a x) := fun j hj => by
  obtain ⟨⟨u, hu⟩, hf⟩ := h j hj
  refine ⟨?_, by simpa [go_sem] using hf⟩
  by_cases e : a = ⟨g, j, none⟩
  · subst e
    exact ⟨x, World.cell?_setCell_same _ _ _ hu⟩
  · exact ⟨u, by rw [World.cell?_setCell_other _ _ _ _ e]; exact hu⟩
theorem RowG.below {g m : Nat} {w w' : World} (h : RowG g m w) (hg : g < w.heap.size) (hb : Below w.heap.size w w') : RowG g m w' := fun j hj => by
  obtain ⟨⟨u, hu⟩, hf⟩ := h j hj
  exact ⟨⟨u, (hb.cell (p := ⟨g, j, none⟩) hg).trans hu⟩, (hb.frozen (p := ⟨g, j, none⟩) hg).trans hf⟩
theorem RowG.of_cells {g : Nat} {w : World} {xs : Array Value} {t : TypeId} (h : w.heap[g]? = some (.cells xs t (0, 0))) : RowG g xs.size w := fun j hj => by
  simp [World.cell?, World.frozen?, h, hj]

set_option maxHeartbeats 1000000 in
set_option maxRecDepth 100000 in
theorem rude_any (k N : Int) (A : Option Addr) (n n2 cap g : Nat) (t : TypeId) (want l : List Pk) (B : Nat) (w : World) (hk0 : 0 ≤ k) (hk1 : k ≤ 255) (hN0 : 0 ≤ N) (hN1 : N ≤ 255) (hn : want.length = n) (hb : n ≤ 1000) (hn2 : l.length = n2) (hb2 : n2 ≤ 1000)
    (hB : B ≤ w.heap.size) (hr : Rd w B 3 A n (want.flatMap pkc)) (hh : w.heap[g]? = some (.cells (l.flatMap pkc).toArray t (0, 0))) :
    Calls Try.prog 74 #[.agg #[.int .u8 k, .slice A n cap, .int .u8 N], .slice (some ⟨g, 0, none⟩) n2 n2] w fun e w' => e = .returned (.bool (badP k N want l)) ∧ Below g w w' := by
  have hgz : g < w.heap.size := (Array.getElem?_eq_some_iff.1 hh).1
  have hrg : RowG g (n2 * 3) w := by
    have h := RowG.of_cells hh
    rw [show ((l.flatMap pkc).toArray).size = n2 * 3 by rw [List.size_toArray, pkc_flat, hn2]] at h
    exact h
  have hr2 := Rd.of_row (n := n2) (cap := n2) (size := 3) hh (by rw [pkc_flat, hn2]; omega) (Nat.le_refl _)
  rw [List.take_of_length_le (by rw [pkc_flat, hn2]; omega)] at hr2
  obtain ⟨q, hq⟩ : ∃ q, q = badP k N want l := ⟨_, rfl⟩
  have HQ := hide hq
  have Hn := hide hn
  have Hn2 := hide hn2
  rw [← HQ.out]
  clear hh hq hn hn2
  go_enter Try.func74, Try.ntmps74
  go_wp2_with fail
  refine (lookbad_any k N A (some ⟨g, 0, none⟩) n n2 cap n2 want l B w.heap.size _ hk0 hk1 hN0 hN1 Hn.out hb Hn2.out hb2 (by simp; omega) (by simp) (hr.below (by repeat' (first | with_reducible exact Below.refl _ _ | with_reducible assumption | with_reducible refine Below.alloc ?_ ?_ _ | with_reducible refine Below.setCell ?_ ?_ _ | with_reducible refine Below.drew ?_ | with_reducible refine below_drewN ?_ _ | with_reducible refine Below.trans ?_ (Below.mono (by with_reducible assumption) ?_) | omega | (simp <;> omega)))) (hr2.below (by repeat' (first | with_reducible exact Below.refl _ _ | with_reducible assumption | with_reducible refine Below.alloc ?_ ?_ _ | with_reducible refine Below.setCell ?_ ?_ _ | with_reducible refine Below.drew ?_ | with_reducible refine below_drewN ?_ _ | with_reducible refine Below.trans ?_ (Below.mono (by with_reducible assumption) ?_) | omega | (simp <;> omega))))).mono ?_
  rintro e w1 ⟨rfl, hb1⟩
  rw [← HQ.out]
  have hs1 := hb1.size
  simp at hs1
  have hb0 : Below w.heap.size w w1 := (by repeat' (first | with_reducible exact Below.refl _ _ | with_reducible assumption | with_reducible refine Below.alloc ?_ ?_ _ | with_reducible refine Below.setCell ?_ ?_ _ | with_reducible refine Below.drew ?_ | with_reducible refine below_drewN ?_ _ | with_reducible refine Below.trans ?_ (Below.mono (by with_reducible assumption) ?_) | omega | (simp <;> omega)))
  have hrg1 := hrg.below hgz hb0
  go_wp2_with fail
  go_loopw [13] (fun i wr => ∃ j : Nat, i = .int .i64 j ∧ j ≤ n2 ∧ RowG g (n2 * 3) wr ∧ Below g w wr ∧ g < wr.heap.size)
    (fun i _ => n2 - (intOf i).toNat)
  case atStart => exact ⟨0, rfl, by omega, hrg1, hb0.mono (by omega), by omega⟩
  case round =>
    obtain ⟨j, rfl, hj, hG, hBr, hgr⟩ := hrel
    by_cases hlt : j < n2
    · obtain ⟨⟨u0, h0⟩, f0⟩ := hG (j * 3) (by omega)
      obtain ⟨⟨u1, h1⟩, f1⟩ := hG (j * 3 + 1) (by omega)
      obtain ⟨⟨u2, h2⟩, f2⟩ := hG (j * 3 + 2) (by omega)
      have hki : (0 : Int) ≤ (j : Int) := by omega
      have hkj : (j : Int) < (n2 : Int) := by omega
      go_wp2_with fail
      exact ⟨⟨j + 1, by go_num, by omega, ((hG.set _ _).set _ _).set _ _, ((hBr.setCell (by simp) _).setCell (by simp) _).setCell (by simp) _, by simpa using hgr⟩, by simp [intOf]; omega⟩
    · obtain rfl : j = n2 := by omega
      go_wp2
      go_ret
      exact ⟨rfl, hBr⟩

theorem rude_pred (k N : Int) (A : Option Addr) (n cap : Nat) (want : List Pk) (B : Nat) (w0 : World) (hk0 : 0 ≤ k) (hk1 : k ≤ 255) (hN0 : 0 ≤ N) (hN1 : N ≤ 255) (hn : want.length = n) (hb : n ≤ 1000) (hr : Rd w0 B 3 A n (want.flatMap pkc)) (hB0 : B ≤ w0.heap.size) :
    Pred 85 (.agg #[.int .u8 k, .slice A n cap, .int .u8 N]) 74 (badP k N want) B w0 := by
  refine ⟨rude_nil _, rude_method _, rude_enter, fun w g n2 t l hbw hl2 hb2 hg hh => ?_⟩
  have hz := hbw.size
  exact rude_any k N A n n2 cap g t want l B w hk0 hk1 hN0 hN1 hn hb hl2 hb2 (by omega) (hr.below hbw) hh

theorem least_nil (A : Option Addr) (n cap : Nat) (w : World) :
    Calls Try.prog 39 #[.nilIface, .slice A n cap] w fun e w' => e = .returned (.slice A n cap) ∧ w = w' := by
  have h := nil_nil
  go_enter Try.func39, Try.ntmps39
  go_wp2
  go_ret
  exact ⟨rfl, rfl⟩
theorem minimal_nil (A : Option Addr) (n cap : Nat) (w : World) :
    Calls Try.prog 42 #[.nilIface, .slice A n cap] w fun e w' => e = .returned (.bool false) ∧ w = w' := by
  have h := nil_nil
  go_enter Try.func42, Try.ntmps42
  go_wp2
  go_ret
  exact ⟨rfl, rfl⟩
theorem steps_nil (A : Option Addr) (n cap : Nat) (w : World) :
    Calls Try.prog 40 #[.nilIface, .slice A n cap] w fun e w' => e = .returned (.int .i64 0) ∧ w = w' := by
  have h := nil_nil
  go_enter Try.func40, Try.ntmps40
  go_wp2
  go_ret
  exact ⟨rfl, rfl⟩
end Go.Proofs.Ytmpbaanlagmacaa
