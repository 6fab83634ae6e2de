/- AdviseStays: the facts that its walk carries. -/
import Derived.Test.YtmpbaanlagmacaaA6
import Derived.Deep.QuietTactic
import Derived.BigQuiet
import Derived.Deep.RegionHeld3
import Derived.Deep.DeepCutAuto
namespace Go.Proofs.Ytmpbaanlagmacaa.lawStays
open Go.ChangeShapes Go.WideShapes Go.ChangeAt Go.RowKit Go.Maps

theorem restv_bd (n t : Int) (h0 : 0 ≤ n) (ht : 1 ≤ t) : 0 ≤ restv n t ∧ restv n t ≤ 64 := by
  unfold restv
  split
  · omega
  · split
    · have hm : n = 1 ∨ n = 2 ∨ n = 3 ∨ n = 4 ∨ n = 5 ∨ n = 6 := by omega
      rcases hm with rfl | rfl | rfl | rfl | rfl | rfl <;> simp [p2] <;> split <;> omega
    · omega
theorem restv_up (n t : Int) (h0 : 0 ≤ n) (ht : 1 ≤ t) : restv n t ≤ restv (n + 1) t ∧ 1 ≤ restv (n + 1) t := by
  by_cases h7 : 6 < n
  · unfold restv
    rw [if_neg (by omega), if_neg (by omega), if_neg (by omega), if_neg (by omega)]
    omega
  · have hm : n = 0 ∨ n = 1 ∨ n = 2 ∨ n = 3 ∨ n = 4 ∨ n = 5 ∨ n = 6 := by omega
    rcases hm with rfl | rfl | rfl | rfl | rfl | rfl | rfl <;> simp [restv, p2] <;> (repeat' split) <;> omega

/-- The cells of the law's array of rests. -/
def WasC (B : Nat) (k : Int) (r : Int → Int) (w : World) : Prop :=
  (∀ j : Nat, j < 5 → ∃ x, w.cell? ⟨B, j, none⟩ = some (.int .i64 x) ∧ (1 ≤ (j : Int) → (j : Int) < k → x = r j)) ∧ (∀ o, w.frozen? ⟨B, o, none⟩ = false) ∧ B < w.heap.size

theorem WasC.below {B : Nat} {k : Int} {r : Int → Int} {w w' : World} (h : WasC B k r w) (hb : Below w.heap.size w w') : WasC B k r w' := by
  obtain ⟨h1, h2, hz⟩ := h
  obtain ⟨hc, hf⟩ := bcell hb
  refine ⟨fun j hj => ?_, fun o => (hf _ _ hz).trans (h2 o), Nat.lt_of_lt_of_le hz hb.size⟩
  obtain ⟨x, hx, hr⟩ := h1 j hj
  exact ⟨x, (hc _ _ hz).trans hx, hr⟩
theorem WasC.store {B : Nat} {k : Nat} {r : Int → Int} {w : World} (h : WasC B k r w) (hk : k < 5) : WasC B ((k : Int) + 1) r (w.setCell ⟨B, k, none⟩ (.int .i64 (r k))) := by
  obtain ⟨h1, h2, hz⟩ := h
  obtain ⟨x0, hx0, _⟩ := h1 k hk
  refine ⟨fun j hj => ?_, fun o => by simp [go_sem, h2], by simpa using hz⟩
  by_cases hjk : j = k
  · subst hjk
    exact ⟨_, World.cell?_setCell_same _ _ _ hx0, fun _ _ => rfl⟩
  · obtain ⟨x, hx, hr⟩ := h1 j hj
    refine ⟨x, ?_, fun a b => hr a (by omega)⟩
    rw [World.cell?_setCell_other _ _ _ _ (by intro e; injection e with _ e; exact hjk e.symm)]
    exact hx
theorem AdvC.cell_far {B C o : Nat} {th : Int} {v1 v2 : Option Nat} {w : World} (h : AdvC B th v1 v2 w) (hne : C ≠ B) (x : Value) : AdvC B th v1 v2 (w.setCell ⟨C, o, none⟩ x) := by
  obtain ⟨c0, c1, c2, f0, f1, f2, hz⟩ := h
  have e : ∀ i, (w.setCell ⟨C, o, none⟩ x).cell? ⟨B, i, none⟩ = w.cell? ⟨B, i, none⟩ := fun i => World.cell?_setCell_other _ _ _ _ (by intro e; injection e with e _; exact hne e)
  exact ⟨(e 0).trans c0, (e 1).trans c1, (e 2).trans c2, by simpa [go_sem] using f0, by simpa [go_sem] using f1, by simpa [go_sem] using f2, by simpa using hz⟩
theorem MapF.set {w : World} {k : TypeId} {v : Option Nat} {n : Nat} {f : Int → Int} (h : MapF w k v n f) (a : Addr) (x : Value) : MapF (w.setCell a x) k v n f := by
  rcases h with h | ⟨b, D, rfl, ⟨es, clock, hb, F, hs, hD⟩, hi, hf⟩
  · exact .inl h
  · refine .inr ⟨b, D, rfl, ⟨es, clock, ?_, F, hs, hD⟩, hi, hf⟩
    simp only [World.setCell, Array.getElem?_modify]
    split
    · rw [hb]
      rfl
    · exact hb
theorem AdvR.set {w : World} {v1 v2 : Option Nat} {n : Nat} {f h : Int → Int} (a : AdvR w v1 v2 n f h) (p : Addr) (x : Value) : AdvR (w.setCell p x) v1 v2 n f h := ⟨MapF.set a.1 p x, MapF.set a.2 p x⟩
theorem AdvR.alloc {w : World} {v1 v2 : Option Nat} {n : Nat} {f h : Int → Int} (a : AdvR w v1 v2 n f h) (o : Obj) : AdvR (w.alloc o) v1 v2 n f h := ⟨a.1.alloc o, a.2.alloc o⟩
theorem AdvR.drew {w : World} {v1 v2 : Option Nat} {n : Nat} {f h : Int → Int} (a : AdvR w v1 v2 n f h) : AdvR w.drew v1 v2 n f h := ⟨a.1, a.2⟩
theorem WasC.set {B : Nat} {k : Int} {r : Int → Int} {w : World} (h : WasC B k r w) {C o : Nat} (hne : C ≠ B) (x : Value) : WasC B k r (w.setCell ⟨C, o, none⟩ x) := by
  obtain ⟨h1, h2, hz⟩ := h
  refine ⟨fun j hj => ?_, fun o => by simp [go_sem, h2], by simpa using hz⟩
  obtain ⟨y, hy, hr⟩ := h1 j hj
  exact ⟨y, (World.cell?_setCell_other _ _ _ _ (by intro e; injection e with e _; exact hne e)).trans hy, hr⟩
theorem WasC.alloc {B : Nat} {k : Int} {r : Int → Int} {w : World} (h : WasC B k r w) (o : Obj) : WasC B k r (w.alloc o) := WasC.below h ((Below.refl _ _).alloc (Nat.le_refl _) o)
theorem WasC.drew {B : Nat} {k : Int} {r : Int → Int} {w : World} (h : WasC B k r w) : WasC B k r w.drew := h
theorem keep3 {W w5 : World} {B : Nat} {a b c : Option Value} (hb : Below W.heap.size W w5) (h : W.cell? ⟨B, 0, none⟩ = a ∧ W.cell? ⟨B, 1, none⟩ = b ∧ W.cell? ⟨B, 2, none⟩ = c) (hB : B < W.heap.size) : w5.cell? ⟨B, 0, none⟩ = a ∧ w5.cell? ⟨B, 1, none⟩ = b ∧ w5.cell? ⟨B, 2, none⟩ = c := by
  obtain ⟨hc, _⟩ := bcell hb
  rw [hc _ _ hB, hc _ _ hB, hc _ _ hB]
  exact h
theorem noDrew {a b : World} (h : Below a.drew.heap.size a.drew b) : Below a.heap.size a b := (Below.refl _ _).drew.trans h

/-- The law's advisor lies boxed at B. -/
def Box (B : Nat) (v1 v2 : Option Nat) (w : World) : Prop := w.cell? ⟨B, 0, none⟩ = some (.int .i64 4) ∧ w.cell? ⟨B, 1, none⟩ = some (.map v1) ∧ w.cell? ⟨B, 2, none⟩ = some (.map v2) ∧ B < w.heap.size
theorem Box.below {B : Nat} {v1 v2 : Option Nat} {w w' : World} (h : Box B v1 v2 w) (hb : Below w.heap.size w w') : Box B v1 v2 w' := by
  obtain ⟨h0, h1, h2, hz⟩ := h
  obtain ⟨hc, _⟩ := bcell hb
  exact ⟨(hc _ _ hz).trans h0, (hc _ _ hz).trans h1, (hc _ _ hz).trans h2, Nat.lt_of_lt_of_le hz hb.size⟩
theorem Box.alloc {B : Nat} {v1 v2 : Option Nat} {w : World} (h : Box B v1 v2 w) (o : Obj) : Box B v1 v2 (w.alloc o) := h.below ((Below.refl _ _).alloc (Nat.le_refl _) o)
theorem Box.drew {B : Nat} {v1 v2 : Option Nat} {w : World} (h : Box B v1 v2 w) : Box B v1 v2 w.drew := h
theorem Box.far {B C o : Nat} {v1 v2 : Option Nat} {w : World} (h : Box B v1 v2 w) (hne : C ≠ B) (x : Value) : Box B v1 v2 (w.setCell ⟨C, o, none⟩ x) := by
  obtain ⟨c0, c1, c2, hz⟩ := h
  have e : ∀ i, (w.setCell ⟨C, o, none⟩ x).cell? ⟨B, i, none⟩ = w.cell? ⟨B, i, none⟩ := fun i => World.cell?_setCell_other _ _ _ _ (by intro e; injection e with e _; exact hne e)
  exact ⟨(e 0).trans c0, (e 1).trans c1, (e 2).trans c2, by simpa using hz⟩

/-- What a failure and a success make of the counts. -/
def ffail (t : Int) (f : Int → Int) : Int → Int := if 1 ≤ t ∧ t ≤ 4 then upd f t (f t + 1) else f
def hfail (t at_ : Int) (h : Int → Int) : Int → Int := if 1 ≤ t ∧ t ≤ 4 then upd h at_ (h at_ + 1) else h
def fwin (t : Int) (f : Int → Int) : Int → Int := if 1 ≤ t ∧ t ≤ 4 then upd f t 0 else f

theorem fail_u (t at_ : Int) (v1 v2 : Option Nat) (n : Nat) (f h : Int → Int) (w : World) (wa : (Lit.int .i64 at_).wf = true) (ha : AdvR w v1 v2 n f h) (hn : n ≤ 1000)
    (hf : ∀ z, 0 ≤ f z ∧ f z ≤ n) (hh : ∀ z, 0 ≤ h z ∧ h z ≤ n) :
    Calls Try.prog 31 #[.agg #[.int .i64 4, .map v1, .map v2], .int .i64 t, .int .i64 at_] w fun e w' => ∃ v1' v2', e = .returned (.agg #[.int .i64 4, .map v1', .map v2']) ∧ AdvR w' v1' v2' (n + 1) (ffail t f) (hfail t at_ h) ∧ Below w.heap.size w w' := by
  by_cases ht : 1 ≤ t ∧ t ≤ 4
  · unfold ffail hfail
    rw [if_pos ht, if_pos ht]
    exact fail_yes 4 t at_ v1 v2 n f h w ht.1 ht.2 (by omega) wa ha hn (hf t).1 (by have := hf t; omega) (hh at_).1 (by have := hh at_; omega)
  · unfold ffail hfail
    rw [if_neg ht, if_neg ht]
    refine (fail_no 4 t at_ v1 v2 w (by omega)).mono ?_
    rintro e w' ⟨rfl, hb⟩
    exact ⟨v1, v2, rfl, ⟨(ha.below hb).1.mono (by omega), (ha.below hb).2.mono (by omega)⟩, hb⟩
theorem win_u (t : Int) (v1 v2 : Option Nat) (n : Nat) (f h : Int → Int) (w : World) (ha : AdvR w v1 v2 n f h) :
    Calls Try.prog 32 #[.agg #[.int .i64 4, .map v1, .map v2], .int .i64 t] w fun e w' => ∃ v1' v2', e = .returned (.agg #[.int .i64 4, .map v1', .map v2']) ∧ AdvR w' v1' v2' n (fwin t f) h ∧ Below w.heap.size w w' := by
  by_cases ht : 1 ≤ t ∧ t ≤ 4
  · unfold fwin
    rw [if_pos ht]
    refine (win_yes 4 t v1 v2 n f h w ht.1 ht.2 (by omega) ha).mono ?_
    rintro e w' ⟨v1', rfl, ha', hb⟩
    exact ⟨v1', v2, rfl, ha', hb⟩
  · unfold fwin
    rw [if_neg ht]
    refine (win_no 4 t v1 v2 w (by omega)).mono ?_
    rintro e w' ⟨rfl, hb⟩
    exact ⟨v1, v2, rfl, ha.below hb, hb⟩

/-- What is known before the law's two events, and stays. -/
def Held (B : Nat) (v1 v2 : Option Nat) (n : Nat) (F : (Int → Int) × (Int → Int)) (W : World) (w : World) : Prop :=
  Box B v1 v2 w ∧ WasC (B + 1) 5 (fun z => restv (F.1 z) z) w ∧ AdvR w v1 v2 n F.1 F.2 ∧ Below W.heap.size W w
theorem Held.below {B : Nat} {v1 v2 : Option Nat} {n : Nat} {F : (Int → Int) × (Int → Int)} {W w w' : World} (h : Held B v1 v2 n F W w) (hb : Below w.heap.size w w') : Held B v1 v2 n F W w' :=
  ⟨h.1.below hb, h.2.1.below hb, h.2.2.1.below hb, h.2.2.2.trans (hb.mono h.2.2.2.size)⟩
theorem Held.alloc {B : Nat} {v1 v2 : Option Nat} {n : Nat} {F : (Int → Int) × (Int → Int)} {W w : World} (h : Held B v1 v2 n F W w) (o : Obj) : Held B v1 v2 n F W (w.alloc o) := h.below ((Below.refl _ _).alloc (Nat.le_refl _) o)
theorem Held.drew {B : Nat} {v1 v2 : Option Nat} {n : Nat} {F : (Int → Int) × (Int → Int)} {W w : World} (h : Held B v1 v2 n F W w) : Held B v1 v2 n F W w.drew := ⟨h.1, h.2.1, h.2.2.1, h.2.2.2.drew⟩
theorem Held.far {B C o : Nat} {v1 v2 : Option Nat} {n : Nat} {F : (Int → Int) × (Int → Int)} {W w : World} (h : Held B v1 v2 n F W w) (hC : B + 1 < C) (hW : W.heap.size ≤ C) (x : Value) : Held B v1 v2 n F W (w.setCell ⟨C, o, none⟩ x) :=
  ⟨h.1.far (by omega) x, h.2.1.set (by omega) x, AdvR.set h.2.2.1 _ x, h.2.2.2.setCell (by simpa using hW) _⟩
theorem Held.adv {B : Nat} {v1 v2 : Option Nat} {n : Nat} {F : (Int → Int) × (Int → Int)} {W w : World} (h : Held B v1 v2 n F W w) : AdvR w v1 v2 n F.1 F.2 := h.2.2.1
theorem Held.box {B : Nat} {v1 v2 : Option Nat} {n : Nat} {F : (Int → Int) × (Int → Int)} {W w : World} (h : Held B v1 v2 n F W w) : w.cell? ⟨B, 0, none⟩ = some (.int .i64 4) ∧ w.cell? ⟨B, 1, none⟩ = some (.map v1) ∧ w.cell? ⟨B, 2, none⟩ = some (.map v2) := ⟨h.1.1, h.1.2.1, h.1.2.2.1⟩
end Go.Proofs.Ytmpbaanlagmacaa.lawStays
