/- The recovery code's value: its cells in a box, its slices. -/
import Derived.Test.YtapjfhbonfehpaaGreatDoorV16
import Derived.Test.YtapjfhbonfehpaaGreatDoorV18
set_option linter.unusedSimpArgs false
set_option linter.unusedVariables false
namespace Go.Proofs.YtapjfhbonfehpaaGreatDoor
open Go.RowKit
def uY (a : AS) : List Value := [.int .i64 a.o, .int .i64 a.l, .int .i64 a.v, .int .u32 a.r, .int .u32 a.f, .int .i64 a.v2, .int .u32 a.r2, .int .u32 a.f2]
theorem D2 (a : AS) : (uY a).length = 8 := rfl
def rZ (p : Int × W3) : List Value := [.int .i64 p.1, .int .i64 p.2.v, .int .u32 p.2.r, .int .u32 p.2.f]
theorem iG (p : Int × W3) : (rZ p).length = 4 := rfl
def ny (x : Int) : List Value := [.int .i64 x]
theorem bI (x : Int) : (ny x).length = 1 := rfl
structure Lo where
 n : Nat
 K : Nat
def FX (lo : Lo) (g n : Nat) (A : Option Addr) : Prop := 0 < n → ∀ b o, A = some ⟨b, o, none⟩ → (b < lo.n ∧ lo.n ≤ g ∧ b ≠ lo.K) ∨ g + 2 < b
theorem FX.at {lo : Lo} {g n G : Nat} (h : g + 2 < G) : FX lo g n (some ⟨G, 0, none⟩) := by
 intro _ b o e;injection e with e
 injection e with e1 _
 omega
structure SL (α : Type) where
 A : Option Addr
 c : Nat
 l : List α
def SL.v {α : Type} (s : SL α) : Value := .slice s.A s.l.length s.c
def SL.nil (α : Type) : SL α := ⟨none, 0, []⟩
def SL.R {α : Type} (lo : Lo) (g size : Nat) (enc : α → List Value) (w : World) (s : SL α) : Prop := s.l.length ≤ s.c ∧ (s.A = none → s.l.length = 0) ∧ Rd w w.heap.size size s.A s.l.length (s.l.flatMap enc) ∧ FX lo g s.l.length s.A
section
variable {α : Type} {lo : Lo} {g size : Nat} {enc : α → List Value} {w w' : World} {s : SL α}
theorem SL.R.nil : (SL.nil α).R lo g size enc w := ⟨Nat.le_refl _, fun _ => rfl, Rd.nil _ _ _ _, fun h => absurd h (Nat.lt_irrefl _)⟩
theorem SL.R.but (h : s.R lo g size enc w) (hb : bB g w.heap.size w w') : s.R lo g size enc w' := by
 obtain ⟨h1, h2, h3, h4⟩ := h;refine ⟨h1, h2, Rd.more ⟨h3.1, fun hn => ?_⟩ hb.size, h4⟩;obtain ⟨b, off, e, hB, hc⟩ := h3.2 hn;exact ⟨b, off, e, hB, fun j u hu => (hb.cell (p := ⟨b, off + j, none⟩) hB (by have := h4 hn b off e; show b ≠ g; omega)).trans (hc j u hu)⟩
theorem SL.R.below (h : s.R lo g size enc w) (hb : Below w.heap.size w w') : s.R lo g size enc w' := h.but ((bB.refl g w.heap.size w).of hb)
theorem SL.R.set (h : s.R lo g size enc w) (o : Nat) (x : Value) : s.R lo g size enc (w.setCell ⟨g, o, none⟩ x) := h.but (bB.setCell (bB.refl g w.heap.size w) (.inl rfl) x)
def SL.Q {α : Type} (lo : Lo) (hi size : Nat) (enc : α → List Value) (w : World) (s : SL α) : Prop := s.l.length ≤ s.c ∧ (s.A = none → s.l.length = 0) ∧ Rd w w.heap.size size s.A s.l.length (s.l.flatMap enc) ∧ (0 < s.l.length → ∀ b o, s.A = some ⟨b, o, none⟩ → (b < lo.n ∧ b ≠ lo.K) ∨ hi ≤ b)
theorem SL.R.at_ {k : Nat} {a : α} (h : s.R lo g size enc w) (he : ∀ a, (enc a).length = size) (ha : s.l[k]? = some a) : ∃ b off, s.A = some ⟨b, off, none⟩ ∧ b < w.heap.size ∧ b ≠ g ∧ ∀ j u, (enc a)[j]? = some u → w.cell? ⟨b, off + (k * size + j), none⟩ = some u := by
 have hk : k < s.l.length := (List.getElem?_eq_some_iff.1 ha).1;obtain ⟨b, off, e, hB, hc⟩ := h.2.2.1.2 oM;refine ⟨b, off, e, hB, by have := h.2.2.2 oM b off e; omega, fun j u hu => hc _ _ ?_⟩;have hj := (List.getElem?_eq_some_iff.1 hu).1;rw [he] at hj;rw [dn he s.l k a ha j hj];exact hu
def SL.tl (size : Nat) (s : SL α) : SL α := ⟨if s.c = 1 then s.A else s.A.map (fun a => a.add size), s.c - 1, s.l.tail⟩
theorem SL.R.tl {a : α} {l : List α} (h : s.R lo g size enc w) (he : ∀ a, (enc a).length = size) (hl : s.l = a :: l) : (s.tl size).R lo g size enc w := by
 obtain ⟨h1, h2, h3, h4⟩ := h;have hn : s.l.length = l.length + 1 := by rw [hl]; rfl
 have ht : s.l.tail = l := by rw [hl]; rfl
 obtain ⟨b, off, e, hB, hc⟩ := h3.2 oM;have hA : (s.tl size).A = some ⟨b, if s.c = 1 then off else off + size, none⟩ := by
  unfold SL.tl;by_cases h : s.c = 1
  ·rw [if_pos h, if_pos h, e]
  ·rw [if_neg h, if_neg h, e];simp [Addr.add]
 refine ⟨by show s.l.tail.length ≤ s.c - 1; rw [ht]; omega, fun h => ?_, ?_, fun hp b' o' e' => ?_⟩
 ·rw [hA] at h;cases h
 ·show Rd w w.heap.size size (s.tl size).A s.l.tail.length (s.l.tail.flatMap enc);rw [ht, hA];refine ⟨?_, fun hp => ⟨b, _, rfl, hB, fun j u hu => ?_⟩⟩
  ·have := h3.1;rw [hl, List.flatMap_cons, List.length_append, he, List.length_cons, Nat.succ_mul] at this;omega
  ·have hc1 : ¬ s.c = 1 := by omega
   rw [if_neg hc1, show off + size + j = off + (size + j) by omega];refine hc _ _ ?_;rw [hl, List.flatMap_cons, List.getElem?_append_right (by rw [he]; omega), he, show size + j - size = j by omega];exact hu
 ·rw [hA] at e';injection e' with e'
  injection e' with e1 _
  subst e1;exact h4 oM _ _ e
end
structure bf where
 T : Int
 C : Int
 B : Int
 P : SL Int
 S : SL Int
 H : SL Int
 step : Int
 part : Int
 L : SL Int
 A : SL AS
 D : SL Int
 F : SL (Int × W3)
 ld : Bool
 en : Bool
 lo : Lo
def bf.cs (v : bf) : List Value := [.int .i64 v.T, .int .i64 v.C, .int .i64 v.B, v.P.v, v.S.v, v.H.v, .int .i64 v.step, .int .i64 v.part, v.L.v, v.A.v, v.D.v, v.F.v, .bool v.ld, .bool v.en]
structure bf.SR (g : Nat) (w : World) (v : bf) : Prop where
 P : v.P.R v.lo g 1 ny w
 S : v.S.R v.lo g 1 ny w
 H : v.H.R v.lo g 1 ny w
 L : v.L.R v.lo g 1 ny w
 A : v.A.R v.lo g 8 uY w
 D : v.D.R v.lo g 1 ny w
 F : v.F.R v.lo g 4 rZ w
 z : g + 2 < w.heap.size
theorem bf.SR.but {g : Nat} {w w' : World} {v : bf} (h : v.SR g w) (hb : bB g w.heap.size w w') : v.SR g w' := ⟨h.P.but hb, h.S.but hb, h.H.but hb, h.L.but hb, h.A.but hb, h.D.but hb, h.F.but hb, Nat.lt_of_lt_of_le h.z hb.size⟩
theorem bf.SR.below {g : Nat} {w w' : World} {v : bf} (h : v.SR g w) (hb : Below w.heap.size w w') : v.SR g w' := h.but ((bB.refl g w.heap.size w).of hb)
theorem bf.SR.set {g : Nat} {w : World} {v : bf} (h : v.SR g w) (o : Nat) (x : Value) : v.SR g (w.setCell ⟨g, o, none⟩ x) := h.but (bB.setCell (bB.refl g w.heap.size w) (.inl rfl) x)
structure bf.SQ (lo : Lo) (hi : Nat) (w : World) (v : bf) : Prop where
 P : v.P.Q lo hi 1 ny w
 S : v.S.Q lo hi 1 ny w
 H : v.H.Q lo hi 1 ny w
 L : v.L.Q lo hi 1 ny w
 A : v.A.Q lo hi 8 uY w
 D : v.D.Q lo hi 1 ny w
 F : v.F.Q lo hi 4 rZ w
section
variable {α : Type} {lo N2 : Lo} {hi hi' size g : Nat} {enc : α → List Value} {w w' : World} {s : SL α}
theorem SL.Q.below (h : s.Q lo hi size enc w) (hb : Below w.heap.size w w') : s.Q lo hi size enc w' := ⟨h.1, h.2.1, (h.2.2.1.below hb).more hb.size, h.2.2.2⟩
theorem SL.Q.mono (h : s.Q lo hi size enc w) (hl : lo.n ≤ N2.n) (hK : lo.K = N2.K) (hh : hi' ≤ hi) : s.Q N2 hi' size enc w := ⟨h.1, h.2.1, h.2.2.1, fun hn b o e => by have := h.2.2.2 hn b o e; omega⟩
theorem SL.Q.all (h : s.Q lo hi size enc w) {K : Nat} (hK : (lo.K = K ∧ K < hi) ∨ w.heap.size ≤ K) : s.Q ⟨w.heap.size, K⟩ hi' size enc w := ⟨h.1, h.2.1, h.2.2.1, fun hn b o e => by
 have h1 := h.2.2.2 hn b o e;left;show b < w.heap.size ∧ b ≠ K;obtain ⟨b', o', e', hb, _⟩ := h.2.2.1.2 hn;rw [e] at e';injection e' with e'
 injection e' with e1 _
 omega⟩
theorem SL.Q.R (h : s.Q lo w.heap.size size enc w) (hlo : lo.n ≤ w.heap.size) (hb : Below w.heap.size w w') : s.R lo w.heap.size size enc w' := ⟨h.1, h.2.1, (h.2.2.1.below hb).more hb.size, fun hn b o e => by
 have h1 := h.2.2.2 hn b o e;obtain ⟨b', o', e', hb, _⟩ := h.2.2.1.2 hn;rw [e] at e';injection e' with e'
 injection e' with e1 _
 omega⟩
theorem SL.Q.set (h : s.Q lo hi size enc w) {C o : Nat} (h12 : (lo.n ≤ C ∨ lo.K = C) ∧ C < hi) (x : Value) : s.Q lo hi size enc (w.setCell ⟨C, o, none⟩ x) := by
 have hsz : w.heap.size ≤ (w.setCell ⟨C, o, none⟩ x).heap.size := by simp
 refine ⟨h.1, h.2.1, Rd.more (B := w.heap.size) ⟨h.2.2.1.1, fun hn => ?_⟩ hsz, h.2.2.2⟩;obtain ⟨b, off, e, hB, hc⟩ := h.2.2.1.2 hn;refine ⟨b, off, e, hB, fun j u hu => ?_⟩;have hne := h.2.2.2 hn b off e;rw [World.cell?_setCell_other _ _ _ _ (by intro e2; injection e2 with e2 _; omega)];exact hc j u hu
end
theorem bf.SQ.below {lo : Lo} {hi : Nat} {w w' : World} {v : bf} (h : v.SQ lo hi w) (hb : Below w.heap.size w w') : v.SQ lo hi w' := ⟨h.P.below hb, h.S.below hb, h.H.below hb, h.L.below hb, h.A.below hb, h.D.below hb, h.F.below hb⟩
theorem bf.SQ.mono {lo N2 : Lo} {hi hi' : Nat} {w : World} {v : bf} (h : v.SQ lo hi w) (hl : lo.n ≤ N2.n) (hK : lo.K = N2.K) (hh : hi' ≤ hi) : v.SQ N2 hi' w := ⟨h.P.mono hl hK hh, h.S.mono hl hK hh, h.H.mono hl hK hh, h.L.mono hl hK hh, h.A.mono hl hK hh, h.D.mono hl hK hh, h.F.mono hl hK hh⟩
theorem bf.SQ.all {lo : Lo} {hi hi' K : Nat} {w : World} {v : bf} (h : v.SQ lo hi w) (hK : (lo.K = K ∧ K < hi) ∨ w.heap.size ≤ K) : v.SQ ⟨w.heap.size, K⟩ hi' w := ⟨h.P.all hK, h.S.all hK, h.H.all hK, h.L.all hK, h.A.all hK, h.D.all hK, h.F.all hK⟩
theorem bf.SQ.set {lo : Lo} {hi C o : Nat} {w : World} {v : bf} (h : v.SQ lo hi w) (h1 : (lo.n ≤ C ∨ lo.K = C) ∧ C < hi) (x : Value) : v.SQ lo hi (w.setCell ⟨C, o, none⟩ x) := ⟨h.P.set h1 x, h.S.set h1 x, h.H.set h1 x, h.L.set h1 x, h.A.set h1 x, h.D.set h1 x, h.F.set h1 x⟩
theorem bf.SQ.SR {lo : Lo} {w w' : World} {v : bf} (h : v.SQ lo w.heap.size w) (hlo : lo.n ≤ w.heap.size) (hb : Below w.heap.size w w') (hz : w.heap.size + 2 < w'.heap.size) : ({ v with lo := lo } : bf).SR w.heap.size w' := ⟨h.P.R hlo hb, h.S.R hlo hb, h.H.R hlo hb, h.L.R hlo hb, h.A.R hlo hb, h.D.R hlo hb, h.F.R hlo hb, hz⟩
def bf.R (g : Nat) (w : World) (v : bf) : Prop := aB g v.cs w ∧ v.SR g w
theorem bf.R.below {g : Nat} {w w' : World} {v : bf} (h : v.R g w) (hb : Below w.heap.size w w') : v.R g w' := ⟨h.1.below hb, h.2.below hb⟩
theorem vp (A : Option Addr) (n c : Nat) (hn : 1 ≤ n) (hA : A = none → n = 0) (W : World) : (Instr.slice 77 (.slice A n c) (some (.int .i64 1)) none none).run Tryz.prog W = .ok (.slice (if c = 1 then A else A.map (fun a => a.add 1)) (n - 1) (c - 1)) W := by
 have hs : (sizeOf (Tryz.prog.elem 77)).run Tryz.prog W = .ok 1 W := by kernel_rfl
 rw [run_slice_l W 77 _ _ _ kR .i64 _ oM oM, hs];simp only [Result.andThen, sliced, show ((1 : Int)).toNat = 1 from rfl]
theorem vq (A : Option Addr) (n c : Nat) (hn : 1 ≤ n) (hA : A = none → n = 0) (W : World) : (Instr.slice 117 (.slice A n c) (some (.int .i64 1)) none none).run Tryz.prog W = .ok (.slice (if c = 1 then A else A.map (fun a => a.add 8)) (n - 1) (c - 1)) W := by
 have hs : (sizeOf (Tryz.prog.elem 117)).run Tryz.prog W = .ok 8 W := by kernel_rfl
 rw [run_slice_l W 117 _ _ _ kR .i64 _ oM oM, hs];simp only [Result.andThen, sliced, show ((1 : Int)).toNat = 1 from rfl]
end Go.Proofs.YtapjfhbonfehpaaGreatDoor
