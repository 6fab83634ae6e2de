/- Package explore: the search told purely. -/
import Derived.Test.YtnnmenmifphadaaGreatDoorU34
import Derived.Test.YtnnmenmifphadaaGreatDoorU43
set_option linter.unusedSimpArgs false
set_option linter.unusedVariables false
set_option maxRecDepth 100000
set_option maxHeartbeats 40000000
namespace Go.Proofs.YtnnmenmifphadaaGreatDoor
open Go.RowKit Go.Maps Go.Sort
structure Expl (X : Type) where
 Rep : WorldV → X → Prop
 Inv : World → X → Prop
 key : X → List UInt8
 out : X → List UInt8
 cs : X → List Nat
 next : X → Nat × Nat → X
structure ExplOK {X : Type} (E : Expl X) (B0 : Nat) : Prop where
 inv : ∀ {w w' : World} {x : X}, E.Inv w x → Below B0 w w' → E.Inv w' x
 invn : ∀ {w : World} {x : X} {s : Nat × Nat}, E.Inv w x → s ∈ stpTo (E.cs x) (E.cs x).length → E.Inv w (E.next x s)
 sz : ∀ {V : WorldV} {x : X}, E.Rep V x → V.M.mem.hs.length ≤ 4096
 keyl : ∀ {w : World} {x : X}, E.Inv w x → (E.key x).length ≤ 140737488355328
 outl : ∀ {w : World} {x : X}, E.Inv w x → (E.out x).length ≤ 140737488355328
 stepl : ∀ {w : World} {x : X}, E.Inv w x → (stpTo (E.cs x) (E.cs x).length).length ≤ 1000000
 key : ∀ {V : WorldV} {x : X} {w : World}, V.R w → E.Rep V x → E.Inv w x → Calls Tryz.prog 15 #[(.agg #[.slice ((V).M).mem.pA ((V).M).mem.hs.length ((V).M).mem.pc, .slice ((V).M).mem.vA ((V).M).mem.vs.length ((V).M).mem.vc, .slice ((V).M).ln.fA ((V).M).ln.first.length ((V).M).ln.fc, .slice ((V).M).ln.lA ((V).M).ln.logs.length ((V).M).ln.lc, .map ((V).M).ln.asks, .slice ((V).M).sA ((V).M).steps.length ((V).M).sc, .int .i64 ((V).M).crashes, .slice (V).tA (V).ts.length (V).tc, .slice (V).sA (V).ss.length (V).sc])] w fun e w' => e = .returned (.string ⟨(E.key x).toArray⟩) ∧ Below w.heap.size w w'
 out : ∀ {V : WorldV} {x : X} {w : World}, V.R w → E.Rep V x → E.Inv w x → Calls Tryz.prog 14 #[(.agg #[.slice ((V).M).mem.pA ((V).M).mem.hs.length ((V).M).mem.pc, .slice ((V).M).mem.vA ((V).M).mem.vs.length ((V).M).mem.vc, .slice ((V).M).ln.fA ((V).M).ln.first.length ((V).M).ln.fc, .slice ((V).M).ln.lA ((V).M).ln.logs.length ((V).M).ln.lc, .map ((V).M).ln.asks, .slice ((V).M).sA ((V).M).steps.length ((V).M).sc, .int .i64 ((V).M).crashes, .slice (V).tA (V).ts.length (V).tc, .slice (V).sA (V).ss.length (V).sc])] w fun e w' => e = .returned (.string ⟨(E.out x).toArray⟩) ∧ Below w.heap.size w w'
 steps : ∀ {V : WorldV} {x : X} {w : World}, V.R w → E.Rep V x → E.Inv w x → Calls Tryz.prog 58 #[(.agg #[.slice ((V).M).mem.pA ((V).M).mem.hs.length ((V).M).mem.pc, .slice ((V).M).mem.vA ((V).M).mem.vs.length ((V).M).mem.vc, .slice ((V).M).ln.fA ((V).M).ln.first.length ((V).M).ln.fc, .slice ((V).M).ln.lA ((V).M).ln.logs.length ((V).M).ln.lc, .map ((V).M).ln.asks, .slice ((V).M).sA ((V).M).steps.length ((V).M).sc, .int .i64 ((V).M).crashes, .slice (V).tA (V).ts.length (V).tc, .slice (V).sA (V).ss.length (V).sc])] w fun e w' => ∃ v : Value, e = .returned v ∧ w'.ownsRow w.heap.size 146 2 v (stpTo (E.cs x) (E.cs x).length).length ((stpTo (E.cs x) (E.cs x).length).flatMap stc) ∧ Below w.heap.size w w'
 after : ∀ {V : WorldV} {x : X} {w : World} {s : Nat × Nat}, V.R w → E.Rep V x → E.Inv w x → s ∈ stpTo (E.cs x) (E.cs x).length → Calls Tryz.prog 59 #[(.agg #[.slice ((V).M).mem.pA ((V).M).mem.hs.length ((V).M).mem.pc, .slice ((V).M).mem.vA ((V).M).mem.vs.length ((V).M).mem.vc, .slice ((V).M).ln.fA ((V).M).ln.first.length ((V).M).ln.fc, .slice ((V).M).ln.lA ((V).M).ln.logs.length ((V).M).ln.lc, .map ((V).M).ln.asks, .slice ((V).M).sA ((V).M).steps.length ((V).M).sc, .int .i64 ((V).M).crashes, .slice (V).tA (V).ts.length (V).tc, .slice (V).sA (V).ss.length (V).sc]), .agg #[.int .i64 ((s.1 : Int) + 1), .int .i64 s.2]] w fun e w' => ∃ V2 : WorldV, e = .returned (.agg #[.slice ((V2).M).mem.pA ((V2).M).mem.hs.length ((V2).M).mem.pc, .slice ((V2).M).mem.vA ((V2).M).mem.vs.length ((V2).M).mem.vc, .slice ((V2).M).ln.fA ((V2).M).ln.first.length ((V2).M).ln.fc, .slice ((V2).M).ln.lA ((V2).M).ln.logs.length ((V2).M).ln.lc, .map ((V2).M).ln.asks, .slice ((V2).M).sA ((V2).M).steps.length ((V2).M).sc, .int .i64 ((V2).M).crashes, .slice (V2).tA (V2).ts.length (V2).tc, .slice (V2).sA (V2).ss.length (V2).sc]) ∧ E.Rep V2 (E.next x s) ∧ V2.R w' ∧ (∀ C, C < w.heap.size → V.off C → V2.off C) ∧ Below w.heap.size w w'
def allP {X : Type} (E : Expl X) (most : Int) : Nat → X → DataW Unit → DataW Unit → Option (DataW Unit × DataW Unit × Bool)
 | 0, _, _, _ => none
 | n + 1, x, S, F =>
  if Maps.has S (.string (E.key x)) then some (S, F, true)
  else
   let S1 := S.put (.string (E.key x)) (.lit (.bool true))
   if most < Maps.size S1 then some (S1, F, false)
   else
    let l := stpTo (E.cs x) (E.cs x).length
    let F1 := if l = [] then F.put (.string (E.out x)) (.lit (.bool true)) else F
    l.foldl (fun r s => match r with
     | some (S, F, true) => allP E most n (E.next x s) S F
     | r => r) (some (S1, F1, true))
def stepP {X : Type} (E : Expl X) (most : Int) (n : Nat) (x : X) (r : Option (DataW Unit × DataW Unit × Bool)) (s : Nat × Nat) : Option (DataW Unit × DataW Unit × Bool) := match r with
 | some (S, F, true) => allP E most n (E.next x s) S F
 | r => r
theorem fold_none {X : Type} (E : Expl X) (most : Int) (n : Nat) (x : X) (l : List (Nat × Nat)) : l.foldl (stepP E most n x) none = none := by
 induction l with
 | nil => rfl
 | cons s l ih => exact ih
theorem fold_false {X : Type} (E : Expl X) (most : Int) (n : Nat) (x : X) (S F : DataW Unit) (l : List (Nat × Nat)) : l.foldl (stepP E most n x) (some (S, F, false)) = some (S, F, false) := by
 induction l with
 | nil => rfl
 | cons s l ih => exact ih
theorem allP_succ {X : Type} (E : Expl X) (most : Int) (n : Nat) (x : X) (S F : DataW Unit) : allP E most (n + 1) x S F = if Maps.has S (.string (E.key x)) then some (S, F, true) else if most < Maps.size (S.put (.string (E.key x)) (.lit (.bool true))) then some (S.put (.string (E.key x)) (.lit (.bool true)), F, false) else (stpTo (E.cs x) (E.cs x).length).foldl (stepP E most n x) (some (S.put (.string (E.key x)) (.lit (.bool true)), if stpTo (E.cs x) (E.cs x).length = [] then F.put (.string (E.out x)) (.lit (.bool true)) else F, true)) := rfl
theorem key_of (l : List UInt8) (h : l.length ≤ 140737488355328) : keyOf Tryz.prog 9 (.string ⟨l.toArray⟩) = some (.string l) := by
 have q := Go.WideMaps.keyOf_string_mk (P := Tryz.prog) Tryz.underlying9 (s := ⟨l.toArray⟩) (by show l.toArray.size ≤ maxLen; unfold maxLen; simp; omega)
 simpa using q
def BK (k1 k2 : Nat) (o1 o2 : Obj) (w : World) : Prop := w.heap[k1]? = some o1 ∧ w.heap[k2]? = some o2
theorem BK.below {k1 k2 : Nat} {o1 o2 : Obj} {w w' : World} (h : BK k1 k2 o1 o2 w) (hb : Below w.heap.size w w') : BK k1 k2 o1 o2 w' :=
 ⟨(hb.block k1 (Array.getElem?_eq_some_iff.1 h.1).1).trans h.1, (hb.block k2 (Array.getElem?_eq_some_iff.1 h.2).1).trans h.2⟩
theorem BK.drew {k1 k2 : Nat} {o1 o2 : Obj} {w : World} (h : BK k1 k2 o1 o2 w) : BK k1 k2 o1 o2 w.drew := h.below (Below.drew (Below.refl _ _))
theorem BK.grown {k1 k2 C : Nat} {o1 o2 : Obj} {w w' : World} (h : BK k1 k2 o1 o2 w) (hg : w.grownBy w' (some C)) (h1 : k1 ≠ C) (h2 : k2 ≠ C) : BK k1 k2 o1 o2 w' :=
 ⟨(hg.block k1 (Array.getElem?_eq_some_iff.1 h.1).1 (by intro e; injection e with e; exact h1 e)).trans h.1, (hg.block k2 (Array.getElem?_eq_some_iff.1 h.2).1 (by intro e; injection e with e; exact h2 e)).trans h.2⟩
theorem zero_steps (w : World) : (zeroValue 141).run Tryz.prog w = .ok (.slice none 0 0) w := by kernel_rfl
theorem offs {V : WorldV} {b1 b2 : Nat} (h : V.off b1 ∧ V.off b2) : V.M.ln.asks ≠ some b1 ∧ V.M.ln.asks ≠ some b2 := ⟨h.1.1.2.2.2, h.2.1.2.2.2⟩
theorem ex_all {X : Type} (E : Expl X) (B0 : Nat) (hE : ExplOK E B0) (kb b1 b2 : Nat) (most : Int) (hb1 : B0 ≤ b1) (hb2 : B0 ≤ b2) (hm1 : most ≤ 100000) (n : Nat) : ∀ (x : X) (S F S' F' : DataW Unit) (ok : Bool) (V : WorldV) (w : World), allP E most n x S F = some (S', F', ok) → V.R w → E.Rep V x → E.Inv w x → B0 ≤ w.heap.size → V.off b1 ∧ V.off b2 → Walk kb b1 b2 most (Maps.size S) S F w → (Maps.size S : Int) ≤ most → Maps.size F ≤ Maps.size S →
  Calls Tryz.prog 25 #[.pointer (some ⟨kb, 0, none⟩), (woV V)] w fun e w' => e = .returned (.bool ok) ∧ Walk kb b1 b2 most (Maps.size S') S' F' w' ∧ ((Maps.size S' : Int) ≤ most + 1 ∧ Maps.size F' ≤ Maps.size S' ∧ (ok = true → (Maps.size S' : Int) ≤ most)) ∧ Kept b1 b2 w w' := by
 induction n with
 | zero => intro x S F S' F' ok V w h; cases h
 | succ n ih =>
  intro x S F S' F' ok V w h hR hRep hInv hB0 hVo hW hSm hFS
  have HVo := hide hVo
  clear hVo
  have IH := hide ih
  clear ih
  rw [allP_succ] at h
  have hkey := key_of (E.key x) (hE.keyl hInv)
  have hKey := fun W (hW : Below w.heap.size w W) => hE.key (hR.below hW) hRep (hE.inv hInv (hW.mono hB0))
  have hlt1 := hW.2.2.2.2.1.lt
  have hlt2 := hW.2.2.2.2.2.lt
  have htidy := hW.2.2.2.2.1.tidy (string_keyed Tryz.underlying9)
  have HE := hide hE
  have HKey := hide hKey
  have HW := hide hW
  have HR := hide hR
  have HInv := hide hInv
  have HRep := hide hRep
  have Hkl := hide hkey
  have hSn : Maps.size S ≤ 100000 := by omega
  have Hsm := hide (And.intro hSm hFS)
  have HB0 := hide hB0
  have Hlt := hide (And.intro hlt1 hlt2)
  have Hb := hide (And.intro hb1 hb2)
  clear hKey hW hR hInv hkey hSm hFS hRep hE hlt1 hlt2 hb1 hb2 hB0
  by_cases hhas : Maps.has S (.string (E.key x)) = true
  ·rw [if_pos hhas] at h
   injection h with h
   injection h with h1 h2
   injection h2 with h2 h3
   subst h1 h2 h3
   clear htidy
   go_enter Tryz.func25, Tryz.ntmps25
   go_wp2_with (first
    | (go_at_call 15; refine (HKey.out _ ab0).mono ?_; rintro e w1 ⟨rfl, hb1⟩; have hB1 : Below w.heap.size w w1 := (Below.alloc (Below.refl _ _) (Nat.le_refl _) _).trans (hb1.mono sM); have HW1 := hide (HW.out.below hB1); have kS1 := HW1.out.c1; have HB1 := hide hB1; clear hb1 hB1)
    | (at_lookup; refine wpList_lookup_own_ok _ rfl _ _ 134 rfl 9 141 (string_keyed Tryz.underlying9) Tryz.underlying134 nilS (zero_steps _) (.lit (.bool true)) [] rfl b1 (Maps.size S) S rfl HW1.out.2.2.2.2.1 _ (.string (E.key x)) rfl Hkl.out ?_; intro v ps hv))
   go_ret
   exact ⟨rfl, HW1.out, ⟨by have := Hsm.out; omega, Hsm.out.2, fun _ => Hsm.out.1⟩, Kept.of HB1.out⟩
  ·rw [if_neg hhas] at h
   have hhas2 : Maps.has S (.string (E.key x)) = false := by simpa using hhas
   obtain ⟨S1, hS1⟩ : ∃ D, D = S.put (.string (E.key x)) (.lit (.bool true)) := ⟨_, rfl⟩
   have hsz1 : Maps.size S1 = Maps.size S + 1 := by rw [hS1, size_put htidy]; simp [hhas2]
   rw [← hS1] at h
   have Hsz1 := hide hsz1
   have HS1 := hide hS1
   have hSn1 : Maps.size S1 ≤ 100001 := by omega
   clear htidy hhas hS1 hsz1
   by_cases hmost : most < (Maps.size S1 : Int)
   ·rw [if_pos hmost] at h
    injection h with h
    injection h with h1 h2
    injection h2 with h2 h3
    subst h1 h2 h3
    have hm2 : (Maps.size S1 : Int) > most := hmost
    have hm3 : decide (most < (Maps.size S1 : Int)) = true := decide_eq_true hmost
    go_enter Tryz.func25, Tryz.ntmps25
    go_upto_region 6 with (first
     | (go_at_call 15; refine (HKey.out _ ab0).mono ?_; rintro e w1 ⟨rfl, hb1⟩; have hB1 : Below w.heap.size w w1 := (Below.alloc (Below.refl _ _) (Nat.le_refl _) _).trans (hb1.mono sM); have HW1 := hide (HW.out.below hB1); have kS1 := HW1.out.c1; have HB1 := hide hB1; clear hb1 hB1)
     | (at_lookup; refine wpList_lookup_own_ok _ rfl _ _ 134 rfl 9 141 (string_keyed Tryz.underlying9) Tryz.underlying134 nilS (zero_steps _) (.lit (.bool true)) [] rfl b1 (Maps.size S) S rfl HW1.out.2.2.2.2.1 _ (.string (E.key x)) rfl Hkl.out ?_; intro v ps hv)
     | (at_mapUpdate; refine wpList_mapUpdate_own _ rfl _ _ _ 134 rfl 9 141 (string_keyed Tryz.underlying9) Tryz.underlying134 nilS b1 (Maps.size S) S rfl HW1.out.2.2.2.2.1 (by unfold maxLen; omega) _ _ _ rfl rfl Hkl.out (.lit (.bool true)) [] rfl ?_; intro w2 hown2 hg2; rw [← HS1.out] at hown2; have HW2 := hide (HW1.out.put1 hg2 hown2); have HK2 := hide ((Kept.of (b1 := b1) (b2 := b2) HB1.out).trans (Kept.grown1 hg2 HW1.out.str.1)); clear hown2 hg2))
    refine wp_region_held_drew (S := (fun W => Walk kb b1 b2 most (Maps.size S + 1) S1 F W)) kR (by first | with_reducible exact HW2.out | with_reducible exact HW2.out.drew | with_reducible exact hHeld | with_reducible exact hHeld.drew) (fun hHeld => ?_)
    refine tq5 0 ?_
    refine tq5 1 ?_
    refine tq5 2 ?_
    refine tq5 3 ?_
    refine tq5 4 ?_
    refine tq5 5 ?_
    refine tq5 6 ?_
    refine tq5 7 ?_
    refine tq5 8 ?_
    refine tq5 9 ?_
    refine wD ?_
    go_wp2_with fail
    go_ret
    exact ⟨rfl, by rw [Hsz1.out]; exact HW2.out, ⟨by have := Hsm.out.1; have := Hsz1.out; omega, by have := Hsm.out.2; have := Hsz1.out; omega, fun e => by cases e⟩, HK2.out.trans (Kept.of (Below.drew (Below.refl _ _)))⟩
   ·rw [if_neg hmost] at h
    have hm2 : (Maps.size S1 : Int) ≤ most := by omega
    have hm3 : decide (most < (Maps.size S1 : Int)) = false := decide_eq_false hmost
    obtain ⟨l, hl⟩ : ∃ l, l = stpTo (E.cs x) (E.cs x).length := ⟨_, rfl⟩
    rw [← hl] at h
    have hl6 : l.length ≤ 1000000 := by rw [hl]; exact HE.out.stepl HInv.out
    have Hl := hide hl
    have H := hide h
    clear hmost hl h
    go_enter Tryz.func25, Tryz.ntmps25
    go_upto_region 6 with (first
     | (go_at_call 15; refine (HKey.out _ ab0).mono ?_; rintro e w1 ⟨rfl, hb1⟩; have hB1 : Below w.heap.size w w1 := (Below.alloc (Below.refl _ _) (Nat.le_refl _) _).trans (hb1.mono sM); have HW1 := hide (HW.out.below hB1); have kS1 := HW1.out.c1; have HB1 := hide hB1; have Hob1 := hide ((hb1.block w.heap.size sM).trans (heap_new _ _ rfl)); clear hb1 hB1)
     | (at_lookup; refine wpList_lookup_own_ok _ rfl _ _ 134 rfl 9 141 (string_keyed Tryz.underlying9) Tryz.underlying134 nilS (zero_steps _) (.lit (.bool true)) [] rfl b1 (Maps.size S) S rfl HW1.out.2.2.2.2.1 _ (.string (E.key x)) rfl Hkl.out ?_; intro v ps hv)
     | (at_mapUpdate; refine wpList_mapUpdate_own _ rfl _ _ _ 134 rfl 9 141 (string_keyed Tryz.underlying9) Tryz.underlying134 nilS b1 (Maps.size S) S rfl HW1.out.2.2.2.2.1 (by unfold maxLen; omega) _ _ _ rfl rfl Hkl.out (.lit (.bool true)) [] rfl ?_; intro w2 hown2 hg2; rw [← HS1.out] at hown2; have HW2 := hide (HW1.out.put1 hg2 hown2); have HK2 := hide ((Kept.of (b1 := b1) (b2 := b2) HB1.out).trans (Kept.grown1 hg2 HW1.out.str.1)); have Hob2 := hide ((hg2.block w.heap.size (by have := HB1.out.size; have := (Array.getElem?_eq_some_iff.1 Hob1.out).1; omega) (by intro e; injection e with e; have := Hlt.out.1; omega)).trans Hob1.out); clear hown2 hg2))
    refine wp_region_held_drew (S := (fun W => Walk kb b1 b2 most (Maps.size S + 1) S1 F W)) kR (by first | with_reducible exact HW2.out | with_reducible exact HW2.out.drew | with_reducible exact hHeld | with_reducible exact hHeld.drew) (fun hHeld => ?_)
    refine tq5 0 ?_
    refine tq5 1 ?_
    refine tq5 2 ?_
    refine tq5 3 ?_
    refine tq5 4 ?_
    refine tq5 5 ?_
    refine tq5 6 ?_
    refine tq5 7 ?_
    refine tq5 8 ?_
    refine tq5 9 ?_
    refine wD ?_
    obtain ⟨wd, hwd⟩ : ∃ W : World, W = w2.drew := ⟨_, rfl⟩
    have HWd : Hid (Walk kb b1 b2 most (Maps.size S + 1) S1 F wd) := hide (by rw [hwd]; exact HW2.out.drew)
    have HKd : Hid (Kept b1 b2 w wd) := hide (by rw [hwd]; exact HK2.out.trans (Kept.of (Below.drew (Below.refl _ _))))
    have hobd : wd.heap[w.heap.size]? = some (.cells #[.slice V.M.mem.pA V.M.mem.hs.length V.M.mem.pc, .slice V.M.mem.vA V.M.mem.vs.length V.M.mem.vc, .slice V.M.ln.fA V.M.ln.first.length V.M.ln.fc, .slice V.M.ln.lA V.M.ln.logs.length V.M.ln.lc, .map V.M.ln.asks, .slice V.M.sA V.M.steps.length V.M.sc, .int .i64 V.M.crashes, .slice V.tA V.ts.length V.tc, .slice V.sA V.ss.length V.sc] 40 (0, 0)) := by rw [hwd]; exact Hob2.out
    rw [← hwd]
    clear hwd hHeld HW2 HK2 Hob2 HW1 HB1 Hob1 kS1
    have Hobd := hide hobd
    have c0 : wd.cell? ⟨w.heap.size, 0, none⟩ = some (.slice V.M.mem.pA V.M.mem.hs.length V.M.mem.pc) := by simp [World.cell?, hobd]
    have c1 : wd.cell? ⟨w.heap.size, 1, none⟩ = some (.slice V.M.mem.vA V.M.mem.vs.length V.M.mem.vc) := by simp [World.cell?, hobd]
    have c2 : wd.cell? ⟨w.heap.size, 2, none⟩ = some (.slice V.M.ln.fA V.M.ln.first.length V.M.ln.fc) := by simp [World.cell?, hobd]
    have c3 : wd.cell? ⟨w.heap.size, 3, none⟩ = some (.slice V.M.ln.lA V.M.ln.logs.length V.M.ln.lc) := by simp [World.cell?, hobd]
    have c4 : wd.cell? ⟨w.heap.size, 4, none⟩ = some (.map V.M.ln.asks) := by simp [World.cell?, hobd]
    have c5 : wd.cell? ⟨w.heap.size, 5, none⟩ = some (.slice V.M.sA V.M.steps.length V.M.sc) := by simp [World.cell?, hobd]
    have c6 : wd.cell? ⟨w.heap.size, 6, none⟩ = some (.int .i64 V.M.crashes) := by simp [World.cell?, hobd]
    have c7 : wd.cell? ⟨w.heap.size, 7, none⟩ = some (.slice V.tA V.ts.length V.tc) := by simp [World.cell?, hobd]
    have c8 : wd.cell? ⟨w.heap.size, 8, none⟩ = some (.slice V.sA V.ss.length V.sc) := by simp [World.cell?, hobd]
    clear hobd
    have hsteps := HE.out.steps (HKd.out.world V (HE.out.sz HRep.out) (offs HVo.out) HR.out) HRep.out (HE.out.inv HInv.out (HKd.out.below Hb.out.1 Hb.out.2 HB0.out))
    rw [← Hl.out] at hsteps
    have Hsteps := hide hsteps
    clear hsteps
    go_upto_region 9 with (first
     | (go_at_call 58; refine Hsteps.out.mono ?_; rintro e w3 ⟨v3, rfl, hrow, hb3⟩; obtain ⟨A, cp, rfl, hcp, hA⟩ := own_slice hrow; have Hrow := hide hrow; have Hb3 := hide hb3; have hs3 := hb3.size; clear hrow hb3))
    have HW3 : Hid (Walk kb b1 b2 most (Maps.size S1) S1 F w3) := hide (by rw [Hsz1.out]; exact HWd.out.below Hb3.out)
    have HK3 := hide (HKd.out.trans (Kept.of Hb3.out))
    have Hob3 := hide ((Hb3.out.block w.heap.size (Array.getElem?_eq_some_iff.1 Hobd.out).1).trans Hobd.out)
    have hS1F : (Maps.size S1 : Int) ≤ most ∧ Maps.size F ≤ Maps.size S1 := ⟨hm2, by have := Hsm.out.2; have := Hsz1.out; omega⟩
    have HS1F := hide hS1F
    clear hS1F c0 c1 c2 c3 c4 c5 c6 c7 c8 HWd HKd Hobd hA hcp hm3 hm2 hSn hSn1 hhas2
    by_cases hl0 : l = []
    ·subst hl0
     have hf := H.out
     rw [if_pos rfl, List.foldl_nil] at hf
     injection hf with hf
     injection hf with h1 h2
     injection h2 with h2 h3
     subst h1 h2 h3
     have htF := HW3.out.2.2.2.2.2.tidy (string_keyed Tryz.underlying9)
     have hszF : Maps.size (F.put (.string (E.out x)) (.lit (.bool true))) ≤ Maps.size S1 := by
      rw [size_put htF]
      have := Hsm.out.2
      have := Hsz1.out
      split <;> omega
     have hSm1 : Maps.size S1 ≤ 100000 := by have := HS1F.out.1; omega
     have hne : kb ≠ b2 := HW3.out.2.2.2.1
     have hne2 : w.heap.size ≠ b2 := by have := Hlt.out.2; omega
     have hout := fun W (hW : Kept b1 b2 w W) => HE.out.out (hW.world V (HE.out.sz HRep.out) (offs HVo.out) HR.out) HRep.out (HE.out.inv HInv.out (hW.below Hb.out.1 Hb.out.2 HB0.out))
     have hupd := fun W (hWk : Walk kb b1 b2 most (Maps.size S1) S1 F W) => hWk.2.2.2.2.2.update (string_keyed Tryz.underlying9) Tryz.underlying44 (by unfold maxLen; omega) (key_of (E.out x) (HE.out.outl HInv.out)) (plainElem_bool Tryz.underlying4 true)
     have Hout := hide hout
     have Hupd := hide hupd
     have HszF := hide hszF
     have HS3 : BK kb w.heap.size (.cells #[.int .i64 most, .map (some b1), .map (some b2)] 136 (0, 0)) (.cells #[.slice V.M.mem.pA V.M.mem.hs.length V.M.mem.pc, .slice V.M.mem.vA V.M.mem.vs.length V.M.mem.vc, .slice V.M.ln.fA V.M.ln.first.length V.M.ln.fc, .slice V.M.ln.lA V.M.ln.logs.length V.M.ln.lc, .map V.M.ln.asks, .slice V.M.sA V.M.steps.length V.M.sc, .int .i64 V.M.crashes, .slice V.tA V.ts.length V.tc, .slice V.sA V.ss.length V.sc] 40 (0, 0)) w3 := ⟨HW3.out.1, Hob3.out⟩
     have rk : ∀ W, BK kb w.heap.size (.cells #[.int .i64 most, .map (some b1), .map (some b2)] 136 (0, 0)) (.cells #[.slice V.M.mem.pA V.M.mem.hs.length V.M.mem.pc, .slice V.M.mem.vA V.M.mem.vs.length V.M.mem.vc, .slice V.M.ln.fA V.M.ln.first.length V.M.ln.fc, .slice V.M.ln.lA V.M.ln.logs.length V.M.ln.lc, .map V.M.ln.asks, .slice V.M.sA V.M.steps.length V.M.sc, .int .i64 V.M.crashes, .slice V.tA V.ts.length V.tc, .slice V.sA V.ss.length V.sc] 40 (0, 0)) W → W.cell? ⟨kb, 2, none⟩ = some (.map (some b2)) := fun W h => by simp [World.cell?, h.1]
     have rb0 : ∀ W, BK kb w.heap.size (.cells #[.int .i64 most, .map (some b1), .map (some b2)] 136 (0, 0)) (.cells #[.slice V.M.mem.pA V.M.mem.hs.length V.M.mem.pc, .slice V.M.mem.vA V.M.mem.vs.length V.M.mem.vc, .slice V.M.ln.fA V.M.ln.first.length V.M.ln.fc, .slice V.M.ln.lA V.M.ln.logs.length V.M.ln.lc, .map V.M.ln.asks, .slice V.M.sA V.M.steps.length V.M.sc, .int .i64 V.M.crashes, .slice V.tA V.ts.length V.tc, .slice V.sA V.ss.length V.sc] 40 (0, 0)) W → W.cell? ⟨w.heap.size, 0, none⟩ = some (.slice V.M.mem.pA V.M.mem.hs.length V.M.mem.pc) := fun W h => by simp [World.cell?, h.2]
     have rb1 : ∀ W, BK kb w.heap.size (.cells #[.int .i64 most, .map (some b1), .map (some b2)] 136 (0, 0)) (.cells #[.slice V.M.mem.pA V.M.mem.hs.length V.M.mem.pc, .slice V.M.mem.vA V.M.mem.vs.length V.M.mem.vc, .slice V.M.ln.fA V.M.ln.first.length V.M.ln.fc, .slice V.M.ln.lA V.M.ln.logs.length V.M.ln.lc, .map V.M.ln.asks, .slice V.M.sA V.M.steps.length V.M.sc, .int .i64 V.M.crashes, .slice V.tA V.ts.length V.tc, .slice V.sA V.ss.length V.sc] 40 (0, 0)) W → W.cell? ⟨w.heap.size, 1, none⟩ = some (.slice V.M.mem.vA V.M.mem.vs.length V.M.mem.vc) := fun W h => by simp [World.cell?, h.2]
     have rb2 : ∀ W, BK kb w.heap.size (.cells #[.int .i64 most, .map (some b1), .map (some b2)] 136 (0, 0)) (.cells #[.slice V.M.mem.pA V.M.mem.hs.length V.M.mem.pc, .slice V.M.mem.vA V.M.mem.vs.length V.M.mem.vc, .slice V.M.ln.fA V.M.ln.first.length V.M.ln.fc, .slice V.M.ln.lA V.M.ln.logs.length V.M.ln.lc, .map V.M.ln.asks, .slice V.M.sA V.M.steps.length V.M.sc, .int .i64 V.M.crashes, .slice V.tA V.ts.length V.tc, .slice V.sA V.ss.length V.sc] 40 (0, 0)) W → W.cell? ⟨w.heap.size, 2, none⟩ = some (.slice V.M.ln.fA V.M.ln.first.length V.M.ln.fc) := fun W h => by simp [World.cell?, h.2]
     have rb3 : ∀ W, BK kb w.heap.size (.cells #[.int .i64 most, .map (some b1), .map (some b2)] 136 (0, 0)) (.cells #[.slice V.M.mem.pA V.M.mem.hs.length V.M.mem.pc, .slice V.M.mem.vA V.M.mem.vs.length V.M.mem.vc, .slice V.M.ln.fA V.M.ln.first.length V.M.ln.fc, .slice V.M.ln.lA V.M.ln.logs.length V.M.ln.lc, .map V.M.ln.asks, .slice V.M.sA V.M.steps.length V.M.sc, .int .i64 V.M.crashes, .slice V.tA V.ts.length V.tc, .slice V.sA V.ss.length V.sc] 40 (0, 0)) W → W.cell? ⟨w.heap.size, 3, none⟩ = some (.slice V.M.ln.lA V.M.ln.logs.length V.M.ln.lc) := fun W h => by simp [World.cell?, h.2]
     have rb4 : ∀ W, BK kb w.heap.size (.cells #[.int .i64 most, .map (some b1), .map (some b2)] 136 (0, 0)) (.cells #[.slice V.M.mem.pA V.M.mem.hs.length V.M.mem.pc, .slice V.M.mem.vA V.M.mem.vs.length V.M.mem.vc, .slice V.M.ln.fA V.M.ln.first.length V.M.ln.fc, .slice V.M.ln.lA V.M.ln.logs.length V.M.ln.lc, .map V.M.ln.asks, .slice V.M.sA V.M.steps.length V.M.sc, .int .i64 V.M.crashes, .slice V.tA V.ts.length V.tc, .slice V.sA V.ss.length V.sc] 40 (0, 0)) W → W.cell? ⟨w.heap.size, 4, none⟩ = some (.map V.M.ln.asks) := fun W h => by simp [World.cell?, h.2]
     have rb5 : ∀ W, BK kb w.heap.size (.cells #[.int .i64 most, .map (some b1), .map (some b2)] 136 (0, 0)) (.cells #[.slice V.M.mem.pA V.M.mem.hs.length V.M.mem.pc, .slice V.M.mem.vA V.M.mem.vs.length V.M.mem.vc, .slice V.M.ln.fA V.M.ln.first.length V.M.ln.fc, .slice V.M.ln.lA V.M.ln.logs.length V.M.ln.lc, .map V.M.ln.asks, .slice V.M.sA V.M.steps.length V.M.sc, .int .i64 V.M.crashes, .slice V.tA V.ts.length V.tc, .slice V.sA V.ss.length V.sc] 40 (0, 0)) W → W.cell? ⟨w.heap.size, 5, none⟩ = some (.slice V.M.sA V.M.steps.length V.M.sc) := fun W h => by simp [World.cell?, h.2]
     have rb6 : ∀ W, BK kb w.heap.size (.cells #[.int .i64 most, .map (some b1), .map (some b2)] 136 (0, 0)) (.cells #[.slice V.M.mem.pA V.M.mem.hs.length V.M.mem.pc, .slice V.M.mem.vA V.M.mem.vs.length V.M.mem.vc, .slice V.M.ln.fA V.M.ln.first.length V.M.ln.fc, .slice V.M.ln.lA V.M.ln.logs.length V.M.ln.lc, .map V.M.ln.asks, .slice V.M.sA V.M.steps.length V.M.sc, .int .i64 V.M.crashes, .slice V.tA V.ts.length V.tc, .slice V.sA V.ss.length V.sc] 40 (0, 0)) W → W.cell? ⟨w.heap.size, 6, none⟩ = some (.int .i64 V.M.crashes) := fun W h => by simp [World.cell?, h.2]
     have rb7 : ∀ W, BK kb w.heap.size (.cells #[.int .i64 most, .map (some b1), .map (some b2)] 136 (0, 0)) (.cells #[.slice V.M.mem.pA V.M.mem.hs.length V.M.mem.pc, .slice V.M.mem.vA V.M.mem.vs.length V.M.mem.vc, .slice V.M.ln.fA V.M.ln.first.length V.M.ln.fc, .slice V.M.ln.lA V.M.ln.logs.length V.M.ln.lc, .map V.M.ln.asks, .slice V.M.sA V.M.steps.length V.M.sc, .int .i64 V.M.crashes, .slice V.tA V.ts.length V.tc, .slice V.sA V.ss.length V.sc] 40 (0, 0)) W → W.cell? ⟨w.heap.size, 7, none⟩ = some (.slice V.tA V.ts.length V.tc) := fun W h => by simp [World.cell?, h.2]
     have rb8 : ∀ W, BK kb w.heap.size (.cells #[.int .i64 most, .map (some b1), .map (some b2)] 136 (0, 0)) (.cells #[.slice V.M.mem.pA V.M.mem.hs.length V.M.mem.pc, .slice V.M.mem.vA V.M.mem.vs.length V.M.mem.vc, .slice V.M.ln.fA V.M.ln.first.length V.M.ln.fc, .slice V.M.ln.lA V.M.ln.logs.length V.M.ln.lc, .map V.M.ln.asks, .slice V.M.sA V.M.steps.length V.M.sc, .int .i64 V.M.crashes, .slice V.tA V.ts.length V.tc, .slice V.sA V.ss.length V.sc] 40 (0, 0)) W → W.cell? ⟨w.heap.size, 8, none⟩ = some (.slice V.sA V.ss.length V.sc) := fun W h => by simp [World.cell?, h.2]
     clear hout hupd hszF htF H
     go_wp2_with fail
     refine wp_region_held_drew (S := (fun W => BK kb w.heap.size (.cells #[.int .i64 most, .map (some b1), .map (some b2)] 136 (0, 0)) (.cells #[.slice V.M.mem.pA V.M.mem.hs.length V.M.mem.pc, .slice V.M.mem.vA V.M.mem.vs.length V.M.mem.vc, .slice V.M.ln.fA V.M.ln.first.length V.M.ln.fc, .slice V.M.ln.lA V.M.ln.logs.length V.M.ln.lc, .map V.M.ln.asks, .slice V.M.sA V.M.steps.length V.M.sc, .int .i64 V.M.crashes, .slice V.tA V.ts.length V.tc, .slice V.sA V.ss.length V.sc] 40 (0, 0)) W)) kR (by first | with_reducible exact HS3 | with_reducible exact HS3.drew | with_reducible exact HS3.below hb4 | with_reducible exact (HS3.below hb4).grown hg5 hne hne2 | with_reducible exact (HS3.below hb4).drew | with_reducible exact hHeld | with_reducible exact hHeld.drew) (fun hHeld => ?_)
     refine tq6 0 ?_
     refine tq6 1 ?_
     refine tq6 2 ?_
     refine tq6 3 ?_
     refine tq6 4 ?_
     refine wE 5 fun K hK => ?_
     go_simp
     (go_at_call 14; refine (Hout.out _ (HK3.out.trans (Kept.of ab0))).mono ?_; rintro e w4 ⟨rfl, hb4'⟩; have hb4 : Below _ _ w4 := ab10; have hsw4 := (hb4).size; (try simp at hsw4))
     go_wp2_with fail
     refine oK hK (by first | with_reducible exact HS3 | with_reducible exact HS3.drew | with_reducible exact HS3.below hb4 | with_reducible exact (HS3.below hb4).grown hg5 hne hne2 | with_reducible exact (HS3.below hb4).drew | with_reducible exact hHeld | with_reducible exact hHeld.drew) fun hHeld => ?_
     clear hK K
     refine wE 6 fun K hK => ?_
     go_simp
     (obtain ⟨w5, hrun5, hown5, hg5⟩ := Hupd.out w4 (HW3.out.below hb4); rw [hrun5]; go_simp)
     go_wp2_with fail
     refine oK hK (by first | with_reducible exact HS3 | with_reducible exact HS3.drew | with_reducible exact HS3.below hb4 | with_reducible exact (HS3.below hb4).grown hg5 hne hne2 | with_reducible exact (HS3.below hb4).drew | with_reducible exact hHeld | with_reducible exact hHeld.drew) fun hHeld => ?_
     clear hK K
     refine wD ?_
     go_wp2_with fail
     refine wp_loop_rounds 1 ?_
     rw [rounds_succ]
     go_wp2_with fail
     go_ret
     have hWZ := ((HW3.out.below hb4).put2 hg5 hown5).refit (Nat.le_refl _) HszF.out
     have hKZ := (HK3.out.trans (Kept.of hb4)).trans (Kept.grown2 hg5 (HW3.out.below hb4).str.2)
     exact ⟨rfl, hWZ, ⟨by have := HS1F.out.1; omega, HszF.out, by first | exact HS1F.out.1 | exact fun _ => HS1F.out.1⟩, hKZ⟩
    ·have hlp : 0 < l.length := List.length_pos_iff.2 hl0
     have hln : ¬ ((l.length : Int) = 0) := by omega
     have hln2 : ((l.length : Int) == 0) = false := by rw [beq_eq_false_iff_ne]; exact hln
     have H2 : Hid (l.foldl (stepP E most n x) (some (S1, F, true)) = some (S', F', ok)) := hide (by have q := H.out; rw [if_neg hl0] at q; exact q)
     clear H hl0
     go_wp2_with fail
     go_loopw [51] (fun i wr => ∃ (k : Nat) (Sk Fk : DataW Unit), i = .int .i64 k ∧ k ≤ l.length ∧ Hid ((l.drop k).foldl (stepP E most n x) (some (Sk, Fk, true)) = some (S', F', ok)) ∧ Hid (Walk kb b1 b2 most (Maps.size Sk) Sk Fk wr) ∧ Hid ((Maps.size Sk : Int) ≤ most ∧ Maps.size Fk ≤ Maps.size Sk) ∧ Hid (Kept b1 b2 w3 wr)) (fun i _ => l.length - (intOf i).toNat)
     case atStart => exact ⟨0, S1, F, rfl, by omega, hide (by simpa using H2.out), HW3, HS1F, hide (Kept.refl _ _ _)⟩
     case round =>
      obtain ⟨k, Sk, Fk, rfl, hk, HF, HWk, HSk, HKk⟩ := hrel
      have hzr : w3.heap.size ≤ wr.heap.size := HKk.out.size
      have HKw := hide (HK3.out.trans HKk.out)
      have j0 : (0 : Int) ≤ (k : Int) := by omega
      by_cases hlt : (k : Int) < l.length
      ·have hk1 : k < l.length := by omega
       have hsk : l[k]? = some l[k] := List.getElem?_eq_getElem hk1
       have hdrop : l.drop k = l[k] :: l.drop (k + 1) := List.drop_eq_getElem_cons hk1
       generalize l[k] = s at hsk hdrop
       have hf := HF.out
       rw [hdrop, List.foldl_cons, show stepP E most n x (some (Sk, Fk, true)) s = allP E most n (E.next x s) Sk Fk from rfl] at hf
       obtain ⟨gA, cp2, e, _, hgA, hrd⟩ := own_some Hrow.out oM
       injection e with e1 e2 e3
       subst e1 e3
       clear e2
       have hrd2 := HKk.out.rd hrd dM (Nat.le_refl _) HW3.out.maps.1 HW3.out.maps.2
       obtain ⟨b', o', e', hb', hc'⟩ := Rd.elem hrd2 (fun a => (rfl : (stc a).length = 2)) hk1 hsk
       injection e' with e'
       injection e' with e4 e5
       subst e4 e5
       have x0 : wr.cell? ⟨gA, 0 + k * 2, none⟩ = some (.int .i64 ((s.1 : Int) + 1)) := hc' 0 _ rfl
       have x1 : wr.cell? ⟨gA, 0 + k * 2 + 1, none⟩ = some (.int .i64 s.2) := hc' 1 _ rfl
       rw [Nat.zero_add] at x0 x1
       have hobr := HKk.out.obj Hob3.out (by have := Hlt.out.1; omega) (by have := Hlt.out.2; omega)
       have c0 : wr.cell? ⟨w.heap.size, 0, none⟩ = some (.slice V.M.mem.pA V.M.mem.hs.length V.M.mem.pc) := by simp [World.cell?, hobr]
       have c1 : wr.cell? ⟨w.heap.size, 1, none⟩ = some (.slice V.M.mem.vA V.M.mem.vs.length V.M.mem.vc) := by simp [World.cell?, hobr]
       have c2 : wr.cell? ⟨w.heap.size, 2, none⟩ = some (.slice V.M.ln.fA V.M.ln.first.length V.M.ln.fc) := by simp [World.cell?, hobr]
       have c3 : wr.cell? ⟨w.heap.size, 3, none⟩ = some (.slice V.M.ln.lA V.M.ln.logs.length V.M.ln.lc) := by simp [World.cell?, hobr]
       have c4 : wr.cell? ⟨w.heap.size, 4, none⟩ = some (.map V.M.ln.asks) := by simp [World.cell?, hobr]
       have c5 : wr.cell? ⟨w.heap.size, 5, none⟩ = some (.slice V.M.sA V.M.steps.length V.M.sc) := by simp [World.cell?, hobr]
       have c6 : wr.cell? ⟨w.heap.size, 6, none⟩ = some (.int .i64 V.M.crashes) := by simp [World.cell?, hobr]
       have c7 : wr.cell? ⟨w.heap.size, 7, none⟩ = some (.slice V.tA V.ts.length V.tc) := by simp [World.cell?, hobr]
       have c8 : wr.cell? ⟨w.heap.size, 8, none⟩ = some (.slice V.sA V.ss.length V.sc) := by simp [World.cell?, hobr]
       have hmem : s ∈ stpTo (E.cs x) (E.cs x).length := by rw [← Hl.out]; exact List.mem_of_getElem? hsk
       have HRr := hide (HKw.out.world V (HE.out.sz HRep.out) (offs HVo.out) HR.out)
       have HIr := hide (HE.out.inv HInv.out (HKw.out.below Hb.out.1 Hb.out.2 HB0.out))
       have hB0r : B0 ≤ wr.heap.size := Nat.le_trans HB0.out HKw.out.size
       have hzw : w.heap.size < wr.heap.size := by have := (Array.getElem?_eq_some_iff.1 hobr).1; omega
       have hbr : gA < wr.heap.size := Nat.lt_of_lt_of_le hb' hzr
       cases hx : allP E most n (E.next x s) Sk Fk with
       | none => rw [hx, fold_none] at hf; cases hf
       | some r =>
        obtain ⟨Sx, Fx, okx⟩ := r
        rw [hx] at hf
        have hafter := fun W (hW : Below wr.heap.size wr W) => HE.out.after (HRr.out.below hW) HRep.out (HE.out.inv HIr.out (hW.mono hB0r)) hmem
        have hall := fun V2 W (hR2 : V2.R W) (hRep2 : E.Rep V2 (E.next x s)) (hVo2 : V2.off b1 ∧ V2.off b2) (hW : Below wr.heap.size wr W) => IH.out (E.next x s) Sk Fk Sx Fx okx V2 W hx hR2 hRep2 (HE.out.invn (HE.out.inv HIr.out (hW.mono hB0r)) hmem) (Nat.le_trans hB0r hW.size) hVo2 (HWk.out.below hW) HSk.out.1 HSk.out.2
        have Hafter := hide hafter
        have Hall := hide hall
        have Hf := hide hf
        clear hafter hall hx hf hmem hsk hdrop hc' hrd hrd2 hobr
        cases okx with
        | true =>
         go_wp2_with (first
         | (go_at_call 59; refine (Hafter.out _ (Below.alloc (Below.refl _ _) (Nat.le_refl _) _)).mono ?_; rintro e w4 ⟨V2, rfl, hRep2, hR2, hoff4, hb4⟩; have HVo2 := hide (show V2.off b1 ∧ V2.off b2 from ⟨hoff4 b1 (by simp; have := Hlt.out.1; omega) HVo.out.1, hoff4 b2 (by simp; have := Hlt.out.2; omega) HVo.out.2⟩); clear hoff4; have hB4 : Below wr.heap.size wr w4 := (Below.alloc (Below.refl _ _) (Nat.le_refl _) _).trans (hb4.mono sM); have HR2 := hide hR2; have HRep2 := hide hRep2; have HB4 := hide hB4; clear hb4 hB4 hR2 hRep2)
         | (go_at_call 25; refine (Hall.out V2 _ HR2.out HRep2.out HVo2.out HB4.out).mono ?_; rintro e w5 ⟨rfl, hW5, hS5, hK5⟩; have HW5 := hide hW5; have HS5 := hide hS5; have HK5 := hide hK5; clear hW5 hS5 hK5))
         have HKn := hide ((HKk.out.trans (Kept.of HB4.out)).trans HK5.out)
         have HSn := hide (And.intro (show (Maps.size Sx : Int) ≤ most by first | exact HS5.out.2.2 rfl | exact HS5.out.2.2 trivial | exact HS5.out.2.2) HS5.out.2.1)
         exact ⟨⟨k + 1, Sx, Fx, by go_num, by omega, Hf, HW5, HSn, HKn⟩, by simp [intOf]; omega⟩
        | false =>
         have hff := Hf.out
         rw [fold_false] at hff
         injection hff with hff
         injection hff with h1 h2
         injection h2 with h2 h3
         subst h1 h2 h3
         clear Hf
         go_wp2_with (first
         | (go_at_call 59; refine (Hafter.out _ (Below.alloc (Below.refl _ _) (Nat.le_refl _) _)).mono ?_; rintro e w4 ⟨V2, rfl, hRep2, hR2, hoff4, hb4⟩; have HVo2 := hide (show V2.off b1 ∧ V2.off b2 from ⟨hoff4 b1 (by simp; have := Hlt.out.1; omega) HVo.out.1, hoff4 b2 (by simp; have := Hlt.out.2; omega) HVo.out.2⟩); clear hoff4; have hB4 : Below wr.heap.size wr w4 := (Below.alloc (Below.refl _ _) (Nat.le_refl _) _).trans (hb4.mono sM); have HR2 := hide hR2; have HRep2 := hide hRep2; have HB4 := hide hB4; clear hb4 hB4 hR2 hRep2)
         | (go_at_call 25; refine (Hall.out V2 _ HR2.out HRep2.out HVo2.out HB4.out).mono ?_; rintro e w5 ⟨rfl, hW5, hS5, hK5⟩; have HW5 := hide hW5; have HS5 := hide hS5; have HK5 := hide hK5; clear hW5 hS5 hK5))
         go_ret
         exact ⟨rfl, HW5.out, HS5.out, (HKw.out.trans (Kept.of HB4.out)).trans HK5.out⟩
      ·obtain rfl : l.length = k := by omega
       have hf := HF.out
       rw [List.drop_length, List.foldl_nil] at hf
       injection hf with hf
       injection hf with h1 h2
       injection h2 with h2 h3
       subst h1 h2 h3
       go_wp2_with fail
       go_ret
       exact ⟨rfl, HWk.out, ⟨by have := HSk.out.1; omega, HSk.out.2, by first | exact HSk.out.1 | exact fun _ => HSk.out.1⟩, HKw.out⟩
theorem walk_new (w : World) (most : Int) : Walk (w.heap.size + 1 + 1) w.heap.size (w.heap.size + 1) most 0 (.map []) (.map []) (((w.alloc (.map #[] 0)).alloc (.map #[] 0)).alloc (.cells #[.int .i64 most, .map (some w.heap.size), .map (some (w.heap.size + 1))] 136)) := by
 have h1 := World.ownsMap_made (H := Unit) w Tryz.prog 9 nilS
 have h2 := World.ownsMap_made (H := Unit) (w.alloc (.map #[] 0)) Tryz.prog 9 (plainElem Tryz.prog 4)
 rw [show (w.alloc (.map #[] 0)).heap.size = w.heap.size + 1 by simp] at h2
 exact ⟨heap_new _ _ sM, by omega, by omega, by omega, (h1.alloc _).alloc _, h2.alloc _⟩
theorem ex_All {X : Type} (E : Expl X) (B0 : Nat) (hE : ExplOK E B0) (most : Int) (hm0 : 0 ≤ most) (hm1 : most ≤ 100000) (n : Nat) (x : X) (S' F' : DataW Unit) (V : WorldV) (w : World) (h : allP E most n x (.map []) (.map []) = some (S', F', true)) (hR : V.R w) (hRep : E.Rep V x) (hInv : E.Inv w x) (hB0 : B0 ≤ w.heap.size) :
  Calls Tryz.prog 10 #[(woV V), .int .i64 most] w fun e w' => ∃ (v : Value) (ss : List (List UInt8)), e = .returned (.tuple #[v, .int .i64 (Maps.size S'), .int .i64 0]) ∧ ss.Perm (strKeys F') ∧ w'.ownsRow w.heap.size 9 1 v ss.length ((ss.mergeSort (fun x y => decide (x ≤ y))).map encStr) ∧ Below w.heap.size w w' := by
 have hbeg := fun W => ex_begun most W
 have hall := fun kb b1 b2 W (h1 : w.heap.size ≤ b1) (h2 : w.heap.size ≤ b2) (hW : Below w.heap.size w W) (hk : Walk kb b1 b2 most 0 (.map []) (.map []) W) => ex_all E B0 hE kb b1 b2 most (Nat.le_trans hB0 h1) (Nat.le_trans hB0 h2) hm1 n x (.map []) (.map []) S' F' true V W h (hR.below hW) hRep (hE.inv hInv (hW.mono hB0)) (Nat.le_trans hB0 hW.size) ⟨WorldV.off_new hR h1, WorldV.off_new hR h2⟩ hk (by simpa [Maps.size] using hm0) (Nat.le_refl _)
 have Hbeg := hide hbeg
 have Hall := hide hall
 have HB0 := hide hB0
 clear hbeg hall h hR hInv hRep hE hB0
 go_enter Tryz.func10, Tryz.ntmps10
 go_wp2_with (first
  | (go_at_call 23; refine (Hbeg.out _).mono ?_; rintro e w1 ⟨rfl, hw1⟩; have hWk : Walk (w.heap.size + 1 + 1 + 1) (w.heap.size + 1) (w.heap.size + 1 + 1) most 0 (.map []) (.map []) w1 := (by rw [hw1]; have q := walk_new (w.alloc (.cells #[.slice (V.M).mem.pA (V.M).mem.hs.length (V.M).mem.pc, .slice (V.M).mem.vA (V.M).mem.vs.length (V.M).mem.vc, .slice (V.M).ln.fA (V.M).ln.first.length (V.M).ln.fc, .slice (V.M).ln.lA (V.M).ln.logs.length (V.M).ln.lc, .map (V.M).ln.asks, .slice (V.M).sA (V.M).steps.length (V.M).sc, .int .i64 (V.M).crashes, .slice V.tA V.ts.length V.tc, .slice V.sA V.ss.length V.sc] 40)) most; simpa using q); have hB1 : Below w.heap.size w w1 := (by rw [hw1]; exact ab0); have hB1' : Below (w.heap.size + 1) (w.alloc (.cells #[.slice (V.M).mem.pA (V.M).mem.hs.length (V.M).mem.pc, .slice (V.M).mem.vA (V.M).mem.vs.length (V.M).mem.vc, .slice (V.M).ln.fA (V.M).ln.first.length (V.M).ln.fc, .slice (V.M).ln.lA (V.M).ln.logs.length (V.M).ln.lc, .map (V.M).ln.asks, .slice (V.M).sA (V.M).steps.length (V.M).sc, .int .i64 (V.M).crashes, .slice V.tA V.ts.length V.tc, .slice V.sA V.ss.length V.sc] 40)) w1 := (by rw [hw1]; exact ab0); have HWk := hide hWk; have HB1 := hide hB1; obtain ⟨hcc1, hff1⟩ := bcellB hB1'; clear hw1 hWk hB1 hB1')
  | (go_at_call 25; refine (Hall.out _ _ _ _ (by have := HB0.out; omega) (by have := HB0.out; omega) HB1.out HWk.out).mono ?_; rintro e w2 ⟨rfl, hW2, hS2, hK2⟩; have HW2 := hide hW2; have HK2 := hide hK2; have HS2 := hide hS2; clear hW2 hS2 hK2)
  | (go_at_call 24; refine (ex_told _ _ _ _ _ _ _ _ HW2.out (by have := HS2.out.1; omega)).mono ?_; rintro e w3 ⟨v, ss, rfl, hp, hrow, hb3⟩; have Hrow := hide hrow; have Hp := hide hp; have Hb3 := hide hb3; clear hrow hp hb3))
 have hB2 : Below w.heap.size w w2 := HB1.out.trans (HK2.out.below oM oM HB1.out.size)
 refine bodyPost_ret (v := .tuple #[v, .int .i64 (Maps.size S'), .int .i64 0]) (by simp [results, Tryz.results10, go_sem]; (try go_simp)) rfl ⟨v, ss, rfl, Hp.out, ownsRow_base_a Hrow.out hB2.size, hB2.trans (Hb3.out.mono hB2.size)⟩
theorem ex_All_no {X : Type} (E : Expl X) (B0 : Nat) (hE : ExplOK E B0) (most : Int) (hm0 : 0 ≤ most) (hm1 : most ≤ 100000) (n : Nat) (x : X) (S' F' : DataW Unit) (V : WorldV) (w : World) (h : allP E most n x (.map []) (.map []) = some (S', F', false)) (hR : V.R w) (hRep : E.Rep V x) (hInv : E.Inv w x) (hB0 : B0 ≤ w.heap.size) :
  Calls Tryz.prog 10 #[(woV V), .int .i64 most] w (Ret (.tuple #[.slice none 0 0, .int .i64 0, .int .i64 15]) w) := by
 have hbeg := fun W => ex_begun most W
 have hall := fun kb b1 b2 W (h1 : w.heap.size ≤ b1) (h2 : w.heap.size ≤ b2) (hW : Below w.heap.size w W) (hk : Walk kb b1 b2 most 0 (.map []) (.map []) W) => ex_all E B0 hE kb b1 b2 most (Nat.le_trans hB0 h1) (Nat.le_trans hB0 h2) hm1 n x (.map []) (.map []) S' F' false V W h (hR.below hW) hRep (hE.inv hInv (hW.mono hB0)) (Nat.le_trans hB0 hW.size) ⟨WorldV.off_new hR h1, WorldV.off_new hR h2⟩ hk (by simpa [Maps.size] using hm0) (Nat.le_refl _)
 have Hbeg := hide hbeg
 have Hall := hide hall
 have HB0 := hide hB0
 clear hbeg hall h hR hInv hRep hE hB0
 go_enter Tryz.func10, Tryz.ntmps10
 go_wp2_with (first
  | (go_at_call 23; refine (Hbeg.out _).mono ?_; rintro e w1 ⟨rfl, hw1⟩; have hWk : Walk (w.heap.size + 1 + 1 + 1) (w.heap.size + 1) (w.heap.size + 1 + 1) most 0 (.map []) (.map []) w1 := (by rw [hw1]; have q := walk_new (w.alloc (.cells #[.slice (V.M).mem.pA (V.M).mem.hs.length (V.M).mem.pc, .slice (V.M).mem.vA (V.M).mem.vs.length (V.M).mem.vc, .slice (V.M).ln.fA (V.M).ln.first.length (V.M).ln.fc, .slice (V.M).ln.lA (V.M).ln.logs.length (V.M).ln.lc, .map (V.M).ln.asks, .slice (V.M).sA (V.M).steps.length (V.M).sc, .int .i64 (V.M).crashes, .slice V.tA V.ts.length V.tc, .slice V.sA V.ss.length V.sc] 40)) most; simpa using q); have hB1 : Below w.heap.size w w1 := (by rw [hw1]; exact ab0); have hB1' : Below (w.heap.size + 1) (w.alloc (.cells #[.slice (V.M).mem.pA (V.M).mem.hs.length (V.M).mem.pc, .slice (V.M).mem.vA (V.M).mem.vs.length (V.M).mem.vc, .slice (V.M).ln.fA (V.M).ln.first.length (V.M).ln.fc, .slice (V.M).ln.lA (V.M).ln.logs.length (V.M).ln.lc, .map (V.M).ln.asks, .slice (V.M).sA (V.M).steps.length (V.M).sc, .int .i64 (V.M).crashes, .slice V.tA V.ts.length V.tc, .slice V.sA V.ss.length V.sc] 40)) w1 := (by rw [hw1]; exact ab0); have HWk := hide hWk; have HB1 := hide hB1; obtain ⟨hcc1, hff1⟩ := bcellB hB1'; clear hw1 hWk hB1 hB1')
  | (go_at_call 25; refine (Hall.out _ _ _ _ (by have := HB0.out; omega) (by have := HB0.out; omega) HB1.out HWk.out).mono ?_; rintro e w2 ⟨rfl, hW2, hS2, hK2⟩; have HW2 := hide hW2; have HK2 := hide hK2; have HS2 := hide hS2; clear hW2 hS2 hK2)
  | (go_at_call 24; refine (ex_told_no _ _).mono ?_; rintro e w3 ⟨rfl, h3⟩; have h3 := h3.symm; subst h3))
 have hB2 : Below w.heap.size w w2 := HB1.out.trans (HK2.out.below oM oM HB1.out.size)
 exact bodyPost_ret (v := .tuple #[.slice none 0 0, .int .i64 0, .int .i64 15]) (by simp [results, Tryz.results10, go_sem]; (try go_simp)) rfl ⟨rfl, hB2⟩
def msgQ (L : Nat) (p : W3 × Int × (Int → Int)) : List UInt8 := rawT p.1 ++ numsT [p.2.1] ++ viewsT L p.2.2
def MW.memT (q : MW) : List UInt8 := q.hs.flatMap (fun l => l.flatMap (msgQ q.hs.length) ++ [47]) ++ q.vs.flatMap (viewsT q.hs.length)
def syncQT (ak : Nat → Int → Int) (n : Nat) (g : Lg) (j : Nat) : List UInt8 := numsT [max g.1 (ak j (n : Int))]
def lineQ (th : Nat) (ak : Nat → Int → Int) (p : Lg × Nat) : List UInt8 := numsT [p.1.1, (p.1.2.length : Int)] ++ (List.range th).flatMap (syncQT ak p.2 p.1)
def MW.lnT (q : MW) : List UInt8 := q.logs.zipIdx.flatMap (lineQ q.vs.length q.ak)
def RowP.done (r : RowP) : Bool := decide (r.l.length ≤ r.i)
def taskQ (p : (RowP × Bool) × List GS) : List UInt8 := [124] ++ numsT [bitI p.1.1.done, bitI p.1.2] ++ p.2.flatMap gotT
def PW.keyP (P : PW) : List UInt8 := P.q.memT ++ [124] ++ P.q.lnT ++ ((P.rows.zip P.ss).zip P.gots).flatMap taskQ
def MW.words (q : MW) : List W3 := q.hs.map (fun l => ((l.getLast?).map Prod.fst).getD ⟨0, 0, 0⟩)
def whoP (f : Int) : Int × Int := if 1 ≤ f / 16777216 ∧ f / 16777216 ≤ 72 ∧ 1 ≤ f % 16777216 then (f / 16777216, f % 16777216) else (0, 0)
def textW (x : W3) : List UInt8 :=
 if x.f ≠ 0 ∧ (whoP x.f).1 ≤ 0 then [] else
  Lib.itoa x.v ++ (if x.r ≠ 0 ∨ x.f ≠ 0 then [46] ++ Lib.itoa x.r else []) ++ (if x.f ≠ 0 then [35] ++ Lib.itoa (whoP x.f).1 ++ [58] ++ Lib.itoa (whoP x.f).2 else [])
def PW.outP (P : PW) : List UInt8 := outT textW P.q.words P.gots
structure MW.Fit (q : MW) : Prop where
 hs : 0 < q.hs.length ∧ q.hs.length ≤ 4096
 th : 0 < q.vs.length ∧ q.vs.length ≤ 8
 hl : ∀ l ∈ q.hs, (0 < l.length ∧ l.length ≤ 1000) ∧ ∀ p ∈ l, p.1.okW ∧ (0 ≤ p.2.1 ∧ p.2.1 ≤ 1000) ∧ ∀ z, p.2.2 z ≤ 1000000
 vl : ∀ f ∈ q.vs, ∀ z, 0 ≤ f z ∧ f z ≤ 1000000
 lg : q.logs.length = (q.hs.length + 7) / 8
 lgl : ∀ g ∈ q.logs, (0 ≤ g.1 ∧ g.1 ≤ 1000000) ∧ g.2.length ≤ 1000000
 ak : ∀ t z, q.ak t z ≤ 1000000
theorem MW.Fit.can {q : MW} (h : q.Fit) : q.Can := ⟨h.hs, h.th, fun l hl => (h.hl l hl).1, h.vl, h.lg, h.lgl⟩
structure PW.Fit (P : PW) : Prop where
 q : P.q.Fit
 rg : P.rows.length = P.gots.length
 rs : P.ss.length = P.rows.length
 rt : P.rows.length ≤ P.q.vs.length
 gl : ∀ l ∈ P.gots, l.length ≤ 1000 ∧ ∀ g ∈ l, (W3.mk g.v g.r g.f).okW
 kl : P.keyP.length ≤ 140737488355328
 ol : P.outP.length ≤ 140737488355328
theorem flat_at {α β γ : Type} {f : α → List γ} {g : β → List γ} : ∀ {A : List α} {B : List β}, A.length = B.length → (∀ (i : Nat) a b, A[i]? = some a → B[i]? = some b → f a = g b) → A.flatMap f = B.flatMap g
 | [], [], _, _ => rfl
 | [], _ :: _, h, _ => by simp at h
 | _ :: _, [], h, _ => by simp at h
 | a :: A, b :: B, h, k => by
  rw [List.flatMap_cons, List.flatMap_cons, k 0 a b rfl rfl, flat_at (by simpa using h) (fun i x y hx hy => k (i + 1) x y (by simpa using hx) (by simpa using hy))]
theorem rowS_done (A : Option Addr) (cap : Nat) (l : List AS) (i : Nat) : (rowS A cap l i).2.2 = decide (l.length ≤ i) := by
 unfold rowS
 cases h : l[i]? with
 | some a => exact (decide_eq_false (by have := (List.getElem?_eq_some_iff.1 h).1; omega)).symm
 | none => exact (decide_eq_true (List.getElem?_eq_none_iff.1 h)).symm
theorem shows_memT {m : MachV} {q : MW} (h : MShows m q) : memoryT m.mem = q.memT := by
 have hl := map_len h.1
 unfold memoryT MW.memT
 rw [← hl, ← h.1, ← h.2.1, List.flatMap_map, List.flatMap_map]
 congr 1
 congr 1
 funext x
 unfold histT
 rw [List.flatMap_map]
 rfl
theorem shows_lnT {m : MachV} {q : MW} (h : MShows m q) : linesT m = q.lnT := by
 have hl := map_len h.2.1
 unfold linesT MW.lnT
 rw [← hl, ← h.2.2.1, ← h.2.2.2.2.1, List.zipIdx_map, List.flatMap_map]
 congr 1
theorem shows_keyT {V : WorldV} {P : PW} (h : Shows V P) (hg : P.rows.length = P.gots.length) : keyT V = P.keyP := by
 obtain ⟨h1, h2, h3, h4, h6, h5⟩ := h
 unfold keyT PW.keyP
 rw [shows_memT h1, shows_lnT h1]
 congr 1
 refine flat_at (by rw [List.length_zip, List.length_zip, List.length_zip, h3, h4, ← hg, h6]; omega) (fun i a b ha hb => ?_)
 obtain ⟨k, s⟩ := a
 obtain ⟨⟨r, s'⟩, gl⟩ := b
 rw [List.getElem?_zip_eq_some] at ha hb
 obtain ⟨k1, k2⟩ := ha
 obtain ⟨r1, r2⟩ := hb
 simp only at k1 k2 r1 r2
 rw [List.getElem?_zip_eq_some] at r1
 obtain ⟨r0, r1⟩ := r1
 simp only at r0 r1
 have hs : s = s' := by
  rw [h3, r1] at k2
  injection k2 with k2
  exact k2.symm
 have hl : k.l = gl := by
  rw [← h2, List.getElem?_map, k1] at r2
  injection r2
 have hd : k.done = r.done := (TS.done (h5 i k r k1 r0)).trans (rowS_done _ _ _ _)
 simp only [taskT, taskQ]
 rw [hd, hs, hl]
theorem shows_okK {V : WorldV} {P : PW} {w : World} (hR : V.R w) (h : Shows V P) (hf : P.Fit) : V.okK := by
 have hk := shows_keyT h hf.rg
 obtain ⟨⟨m1, m2, m3, m4, m5, m6⟩, h2, h3, h4, h6, h5⟩ := h
 have l1 := map_len m1
 have l2 := map_len m2
 have l3 := map_len m3
 have q := hf.q
 have e1 := q.hs
 have e2 := q.th
 have e3 := hf.rt
 have e4 := q.lg
 refine ⟨⟨by omega, by omega, fun a ha => ?_, fun a ha z => (q.vl a.f (by rw [← m2]; exact List.mem_map_of_mem ha) z).2⟩, ⟨by omega, by omega, by omega, by omega, (by rw [m5]; exact q.ak), fun g hg => q.lgl (logP g) (by rw [← m3]; exact List.mem_map_of_mem hg)⟩, by rw [h3]; omega, by omega, fun k hk' => ?_, by rw [hk]; exact hf.kl⟩
 ·have ha' : a.l.map msgP ∈ P.q.hs := by rw [← m1]; exact List.mem_map_of_mem (f := fun h => h.l.map msgP) ha
  obtain ⟨⟨_, g1⟩, g2⟩ := q.hl _ ha'
  rw [List.length_map] at g1
  refine ⟨by omega, fun g hg => ?_⟩
  obtain ⟨p1, p2, p3⟩ := g2 (msgP g) (List.mem_map_of_mem hg)
  exact ⟨p1, (by have := p2.1; have := p2.2; simp only [msgP] at *; omega), p3⟩
 ·have hk2 : k.l ∈ P.gots := by rw [← h2]; exact List.mem_map_of_mem hk'
  obtain ⟨g1, g2⟩ := hf.gl _ hk2
  have hm : k.l.length = k.m := gots_length (hR.2.1.2.2.2 k hk').1
  exact ⟨by omega, fun g hg => g2 g hg⟩
end Go.Proofs.YtnnmenmifphadaaGreatDoor
