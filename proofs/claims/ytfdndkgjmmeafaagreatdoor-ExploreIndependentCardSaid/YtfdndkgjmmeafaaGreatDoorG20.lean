/- Package memory: finds. -/
import Derived.Deep.RegionHeld
import Derived.Test.YtfdndkgjmmeafaaGreatDoorG04
import Derived.Test.YtfdndkgjmmeafaaGreatDoorG18
namespace Go.Proofs.YtfdndkgjmmeafaaGreatDoor
set_option linter.unusedSimpArgs false
set_option linter.unusedVariables false
open Go.RowKit Go.Maps
/-- The view of a thread that reads message i of location k. -/
def findF (j : Bool) (f g : Int → Int) (k i : Int) : Int → Int := if j then joinF (withF f k i) g else withF f k i
set_option maxHeartbeats 2000000 in
set_option maxRecDepth 100000 in
theorem mem_finds_yes (m : MemV) (t k i : Nat) (h : HistV) (g : MsgV) (a : VwV) (w : World) (hR : m.R w) (hh : m.hs[k]? = some h) (hg : h.l[i]? = some g) (ha : m.vs[t]? = some a) (hn : m.vs.length ≤ 1000) (hL : m.hs.length ≤ 4096) (hi6 : i ≤ 1000000) :
    Calls Tryz.prog 171 #[(.agg #[.slice (m).pA (m).hs.length (m).pc, .slice (m).vA (m).vs.length (m).vc]), .int .i64 ((t : Int) + 1), .int .i64 k, .int .i64 i, .bool true] w fun e w' => ∃ G v', e = .returned (.tuple #[.agg #[.slice m.pA m.hs.length m.pc, .slice (some ⟨G, 0, none⟩) m.vs.length m.vs.length], (.agg #[.int .i64 (g.x).v, .int .u32 (g.x).r, .int .u32 (g.x).f])]) ∧ w.heap.size ≤ G ∧ (m.with (some ⟨G, 0, none⟩) m.vs.length t ⟨v', joinF (withF a.f k i) g.a.f⟩).R w' ∧ Below w.heap.size w w' := by
  have hkn : k < m.hs.length := (List.getElem?_eq_some_iff.1 hh).1
  have htn : t < m.vs.length := (List.getElem?_eq_some_iff.1 ha).1
  have hhR : h.R m.hs.length w := hR.1.2.2.2 h (List.mem_of_getElem? hh)
  have haR : a.R m.hs.length w := hR.2.2.2.2 a (List.mem_of_getElem? ha)
  have hgR : g.a.R m.hs.length w := hhR.2.2.2 g (List.mem_of_getElem? hg)
  obtain ⟨b, off, e, hb, c0⟩ := Rd.one hR.1.2.2.1 hkn hh
  obtain ⟨pA, pc, hs, vA, vc, vs⟩ := m
  simp only at e hkn htn hhR haR hgR hn hL hh ha
  subst e
  obtain ⟨m, hm⟩ : ∃ m, m = MemV.mk (some ⟨b, off, none⟩) pc hs vA vc vs := ⟨_, rfl⟩
  rw [← hm] at hR
  have hat := fun W (hw : h.R hs.length W) => hist_at hs.length h i g W hw hg
  have hseen := fun W (hw : m.R W) => mem_seen m t a W hw (by rw [hm]; exact ha) (by rw [hm]; exact hn)
  have hwith := fun W (hw : a.R hs.length W) => view_with hs.length hL a k i W hw (by omega) (by omega) (WalkArith.wf_i64 (by omega))
  have hmw := fun (x : VwV) W (hw : m.R W) (hx : x.R hs.length W) => mem_with m t x W hw (by rw [hm]; exact htn) (by rw [hm]; exact hn) (by rw [hm]; exact hx)
  have hjoin := fun (x : VwV) W (hx : x.R hs.length W) (hy : g.a.R hs.length W) => view_join hs.length hL x g.a W hx hy
  simp only [hm] at hseen hmw
  rw [hm] at hR
  have Hat := hide hat
  have Hseen := hide hseen
  have Hwith := hide hwith
  have Hmw := hide hmw
  have Hjoin := hide hjoin
  have HR := hide hR
  have Hh := hide hhR
  have HaR := hide haR
  have HgR := hide hgR
  have h0 : (0 : Int) ≤ (k : Int) := by omega
  have h1 : (k : Int) < (hs.length : Int) := by omega
  have hbz1 : b < w.heap.size + 1 := by omega
  have hbz2 : b < w.heap.size + 1 + 1 := by omega
  have hbz : b < w.heap.size + 1 + 1 + 1 := by omega
  unfold histv at c0
  clear hR hhR haR hgR hh hg ha hn hL hi6 hkn htn hm hat hseen hwith hmw hjoin
  go_enter Tryz.func171, Tryz.ntmps171
  go_wp2_with (first
    | (go_at_call 60; refine (Hseen.out _ (HR.out.below ab0)).mono ?_; rintro e w2 ⟨rfl, hb2⟩; obtain ⟨hcc2, hff2⟩ := bcell hb2; have hs2 := hb2.size; (try simp at hs2); have hz2 : w.heap.size < w2.heap.size := (by omega); have hz2a : w.heap.size + 1 < w2.heap.size := (by omega); have hz2b : w.heap.size + 1 + 1 < w2.heap.size := (by omega); have hz2c : w1.heap.size < w2.heap.size := (by omega))
    | (go_at_call 168; refine (Hwith.out _ (HaR.out.below ab0)).mono ?_; rintro e w3 ⟨v3, rfl, hv3, hb3⟩; obtain ⟨hcc3, hff3⟩ := bcell hb3; have hs3 := hb3.size; (try simp at hs3); have hz3 : w.heap.size < w3.heap.size := (by omega); have hz3a : w.heap.size + 1 < w3.heap.size := (by omega); have hz3b : w.heap.size + 1 + 1 < w3.heap.size := (by omega); have hz3c : w1.heap.size < w3.heap.size := (by omega); have Hv3 := hide hv3; clear hv3)
    | (go_at_call 179; refine (Hjoin.out ⟨v3, _⟩ _ (Hv3.out.below ab0) (HgR.out.below ab0)).mono ?_; rintro e w4 ⟨v4, rfl, hv4, hb4⟩; obtain ⟨hcc4, hff4⟩ := bcell hb4; have hs4 := hb4.size; (try simp at hs4); have hz4 : w.heap.size < w4.heap.size := (by omega); have hz4a : w.heap.size + 1 < w4.heap.size := (by omega); have hz4b : w.heap.size + 1 + 1 < w4.heap.size := (by omega); have hz4c : w1.heap.size < w4.heap.size := (by omega); have hz4d : w3.heap.size < w4.heap.size := (by omega); have Hv4 := hide hv4; clear hv4)
    | (go_at_call 58; refine (Hat.out _ (Hh.out.below ab0)).mono ?_; rintro e w1 ⟨rfl, hb1⟩; obtain ⟨hcc1, hff1⟩ := bcell hb1; have hs1 := hb1.size; (try simp at hs1); have hz1 : w.heap.size < w1.heap.size := (by omega); have hz1a : w.heap.size + 1 < w1.heap.size := (by omega); have hz1b : w.heap.size + 1 + 1 < w1.heap.size := (by omega)))
  have x0 : w4.cell? ⟨w3.heap.size, 0, none⟩ = some (.map v3) := by go_simp
  obtain ⟨wa, hwa⟩ : ∃ wa : World, wa = w4.setCell ⟨w3.heap.size, 0, none⟩ (.map v4) := ⟨_, rfl⟩
  have q0 : wa.cell? ⟨w.heap.size, 0, none⟩ = some (.slice (some ⟨b, off, none⟩) hs.length pc) := by rw [hwa]; go_simp
  have q1 : wa.cell? ⟨w.heap.size, 1, none⟩ = some (.slice vA vs.length vc) := by rw [hwa]; go_simp
  have q2 : wa.cell? ⟨w3.heap.size, 0, none⟩ = some (.map v4) := by rw [hwa]; go_simp
  have q3 : wa.cell? ⟨w1.heap.size, 0, none⟩ = some (.int .i64 g.x.v) := by rw [hwa]; go_simp
  have q4 : wa.cell? ⟨w1.heap.size, 1, none⟩ = some (.int .u32 g.x.r) := by rw [hwa]; go_simp
  have q5 : wa.cell? ⟨w1.heap.size, 2, none⟩ = some (.int .u32 g.x.f) := by rw [hwa]; go_simp
  have r0 : wa.cell? ⟨w.heap.size + 1, 0, none⟩ = some (.slice none 0 0) := by rw [hwa]; go_simp
  have r1 : wa.cell? ⟨w.heap.size + 1, 1, none⟩ = some (.slice none 0 0) := by rw [hwa]; go_simp
  have r2 : wa.cell? ⟨w.heap.size + 1 + 1, 0, none⟩ = some (.int .i64 0) := by rw [hwa]; go_simp
  have r3 : wa.cell? ⟨w.heap.size + 1 + 1, 1, none⟩ = some (.int .u32 0) := by rw [hwa]; go_simp
  have r4 : wa.cell? ⟨w.heap.size + 1 + 1, 2, none⟩ = some (.int .u32 0) := by rw [hwa]; go_simp
  have f0 : ∀ o, wa.frozen? ⟨w.heap.size + 1, o, none⟩ = false := by intro o; rw [hwa]; go_simp
  have f1 : ∀ o, wa.frozen? ⟨w.heap.size + 1 + 1, o, none⟩ = false := by intro o; rw [hwa]; go_simp
  have hBa : Below w.heap.size w wa := by rw [hwa]; exact ab0
  have hVa : VwV.R hs.length wa ⟨v4, joinF (withF a.f k i) g.a.f⟩ := by rw [hwa]; exact Hv4.out.setCell x0 _
  have HVa := hide hVa
  have hza : wa.heap.size = w4.heap.size := by rw [hwa]; simp
  have hA0 : w.heap.size < wa.heap.size := by omega
  have hA1 : w.heap.size + 1 < wa.heap.size := by omega
  have hA2 : w.heap.size + 1 + 1 < wa.heap.size := by omega
  have hA3 : w3.heap.size < wa.heap.size := by omega
  have hA4 : w1.heap.size < wa.heap.size := by omega
  rw [← hwa]
  clear hwa hza hVa x0 hcc1 hcc2 hcc3 hcc4 hff1 hff2 hff3 hff4 hb1 hb2 hb3 hb4 Hv3 Hv4 Hat Hseen Hwith Hjoin
  refine wp_region_held_drew (S := (fun w' => (w'.cell? ⟨w.heap.size, 0, none⟩ = some (.slice (some ⟨b, off, none⟩) hs.length pc) ∧ w'.cell? ⟨w.heap.size, 1, none⟩ = some (.slice vA vs.length vc) ∧ w'.cell? ⟨w3.heap.size, 0, none⟩ = some (.map v4)) ∧ w'.cell? ⟨w1.heap.size, 0, none⟩ = some (.int .i64 g.x.v) ∧ w'.cell? ⟨w1.heap.size, 1, none⟩ = some (.int .u32 g.x.r) ∧ w'.cell? ⟨w1.heap.size, 2, none⟩ = some (.int .u32 g.x.f))) (by kernel_rfl) ab22 (fun hHeld => ?_)
  refine wpAnyH_take (i := 0) (v := ?_) (oi := { dst := some 36, op := Op.load 34 (Operand.tmp 5), type := 34, pos := "memory.go:91", after := #[], guard := none }) (by rfl) (by kernel_rfl) (by kernel_rfl) (by kernel_rfl) (fun _ _ _ h => h) (Or.inl ⟨by rfl, ?_⟩) (by assumption) ?_; rotate_left; focus (intro wTk hSw; (try dsimp only at hSw); go_simp; (try with_reducible rfl); done)
  (try simp only [Act.put, List.setIfInBounds_toArray, List.set_cons_zero, List.set_cons_succ])
  refine wpAnyH_take (i := 1) (v := ?_) (oi := { dst := some 37, op := Op.move (Operand.tmp 1), type := 3, pos := "memory.go:91", after := #[], guard := none }) (by rfl) (by kernel_rfl) (by kernel_rfl) (by kernel_rfl) (fun _ _ _ h => h) (Or.inl ⟨by rfl, ?_⟩) (by assumption) ?_; rotate_left; focus (intro wTk hSw; (try dsimp only at hSw); go_simp; (try with_reducible rfl); done)
  (try simp only [Act.put, List.setIfInBounds_toArray, List.set_cons_zero, List.set_cons_succ])
  refine wpAnyH_take (i := 2) (v := ?_) (oi := { dst := some 38, op := Op.load 133 (Operand.tmp 14), type := 133, pos := "memory.go:91", after := #[], guard := none }) (by rfl) (by kernel_rfl) (by kernel_rfl) (by kernel_rfl) (fun _ _ _ h => h) (Or.inl ⟨by rfl, ?_⟩) (by assumption) ?_; rotate_left; focus (intro wTk hSw; (try dsimp only at hSw); go_simp; (try with_reducible rfl); done)
  (try simp only [Act.put, List.setIfInBounds_toArray, List.set_cons_zero, List.set_cons_succ])
  refine wpAnyH_take (i := 4) (v := ?_) (oi := { dst := some 40, op := Op.fieldAddr 135 (Operand.tmp 12) 0, type := 0, pos := "memory.go:91", after := #[{ on := 6, ground := Ground.gcOnly Departure.lateStores }], guard := none }) (by rfl) (by kernel_rfl) (by kernel_rfl) (by kernel_rfl) (fun _ _ _ h => h) (Or.inl ⟨by rfl, ?_⟩) (by assumption) ?_; rotate_left; focus (intro wTk hSw; (try dsimp only at hSw); go_simp; (try with_reducible rfl); done)
  (try simp only [Act.put, List.setIfInBounds_toArray, List.set_cons_zero, List.set_cons_succ])
  refine wpAnyH_take (i := 5) (v := ?_) (oi := { dst := some 41, op := Op.load 25 (Operand.tmp 40), type := 25, pos := "memory.go:91", after := #[{ on := 4, ground := Ground.data }, { on := 6, ground := Ground.gcOnly Departure.lateStores }], guard := none }) (by rfl) (by kernel_rfl) (by kernel_rfl) (by kernel_rfl) (fun _ _ _ h => h) (Or.inl ⟨by rfl, ?_⟩) (by assumption) ?_; rotate_left; focus (intro wTk hSw; (try dsimp only at hSw); go_simp; (try with_reducible rfl); done)
  (try simp only [Act.put, List.setIfInBounds_toArray, List.set_cons_zero, List.set_cons_succ])
  refine wpAnyH_ready (rs := [3]) (by kernel_rfl) (by simp) ?_
  refine AllReadyH.cons (o := { dst := some 39, op := Op.call { callee := Callee.value (Operand.func 170), args := #[Operand.tmp 36, Operand.tmp 37, Operand.tmp 38], argTypes := #[34, 3, 133] }, type := 34, pos := "memory.go:91", after := #[{ on := 0, ground := Ground.data }, { on := 1, ground := Ground.data }, { on := 2, ground := Ground.data }], guard := none }) (by rfl) (fun K hK => ?_) (AllReadyH.nil)
  go_simp
  (go_at_call 170; refine (Hmw.out ⟨v4, _⟩ _ (HR.out.below ab0) (HVa.out.below ab0)).mono ?_; rintro e w5 ⟨g5, rfl, hg5, hm5, hb5'⟩; (try simp at hg5); have hb5 : Below wa.heap.size wa w5 := ab7; clear hb5'; obtain ⟨hcc5, hff5⟩ := bcell hb5; have hs5 := hb5.size; have Hm5 := hide (MemV.with_rd hm5 rfl); clear hm5; have hz5a : w.heap.size + 1 < w5.heap.size := (by omega); have hz5b : w.heap.size + 1 + 1 < w5.heap.size := (by omega))
  go_wp2_with fail
  refine hK.out _ _ ab22 (fun hHeld => ?_)
  clear hK K
  (try simp only [Act.put, List.setIfInBounds_toArray, List.set_cons_zero, List.set_cons_succ])
  refine wpAnyH_ready (rs := [6]) (by kernel_rfl) (by simp) ?_
  refine AllReadyH.cons (o := { dst := none, op := Op.store 34 (Operand.tmp 10) (Operand.tmp 39), type := 0, pos := "memory.go:91", after := #[{ on := 3, ground := Ground.data }, { on := 3, ground := Ground.chain }, { on := 0, ground := Ground.phase }, { on := 1, ground := Ground.phase }, { on := 2, ground := Ground.phase }, { on := 3, ground := Ground.phase }, { on := 4, ground := Ground.textOnly Departure.lateStores }, { on := 5, ground := Ground.textOnly Departure.lateStores }], guard := none }) (by rfl) (fun K hK => ?_) (AllReadyH.nil)
  go_simp
  skip
  go_wp2_with fail
  refine hK.out _ _ ab22 (fun hHeld => ?_)
  clear hK K
  (try simp only [Act.put, List.setIfInBounds_toArray, List.set_cons_zero, List.set_cons_succ])
  refine wpAnyH_ready (rs := [7]) (by kernel_rfl) (by simp) ?_
  refine AllReadyH.cons (o := { dst := none, op := Op.store 25 (Operand.tmp 11) (Operand.tmp 41), type := 0, pos := "memory.go:91", after := #[{ on := 5, ground := Ground.data }, { on := 6, ground := Ground.chain }, { on := 0, ground := Ground.phase }, { on := 1, ground := Ground.phase }, { on := 2, ground := Ground.phase }, { on := 3, ground := Ground.phase }, { on := 4, ground := Ground.phase }, { on := 5, ground := Ground.phase }, { on := 6, ground := Ground.phase }], guard := none }) (by rfl) (fun K hK => ?_) (AllReadyH.nil)
  go_simp
  skip
  go_wp2_with fail
  refine hK.out _ _ ab22 (fun hHeld => ?_)
  clear hK K
  (try simp only [Act.put, List.setIfInBounds_toArray, List.set_cons_zero, List.set_cons_succ])
  refine wpAnyH_done (by kernel_rfl) ?_ _
  all_goals go_wp2_with fail
  all_goals have s0 : ∀ u, (((w5.setCell ⟨w.heap.size + 1, 0, none⟩ (.slice (some ⟨b, off, none⟩) hs.length pc)).setCell ⟨w.heap.size + 1, 1, none⟩ (.slice (some ⟨g5, 0, none⟩) vs.length vs.length)).setCell ⟨w.heap.size + 1 + 1, 0, none⟩ u).heap.size = w5.heap.size := fun u => by simp
  all_goals refine bodyPost_ret (v := .tuple #[.agg #[.slice (some ⟨b, off, none⟩) hs.length pc, .slice (some ⟨g5, 0, none⟩) vs.length vs.length], (.agg #[.int .i64 (g.x).v, .int .u32 (g.x).r, .int .u32 (g.x).f])]) (by simp [results, Tryz.results171, go_sem]; (try go_simp)) rfl ⟨_, v4, rfl, by omega, MemV.with_R HR.out ab0 rfl ?_ ?_, ab0⟩
  all_goals first
    | (refine Rd.more (Rd.set_far (Rd.set_far (Rd.set_far (Rd.set_far (Rd.set_far Hm5.out ?_ _) ?_ _) ?_ _) ?_ _) ?_ _) (by simp) <;> omega)
    | exact (((((HVa.out.below hb5).setCell (u := .slice none 0 0) (by go_simp) _).setCell (u := .slice none 0 0) (by go_simp) _).setCell (u := .int .i64 0) (by go_simp) _).setCell (u := .int .u32 0) (by go_simp) _).setCell (u := .int .u32 0) (by go_simp) _
end Go.Proofs.YtfdndkgjmmeafaaGreatDoor

namespace Go.Proofs.YtfdndkgjmmeafaaGreatDoor
set_option linter.unusedSimpArgs false
set_option linter.unusedVariables false
open Go.RowKit Go.Maps
/-- There is such a cell. -/
def HasC (p : Addr) (w : World) : Prop := ∃ u, w.cell? p = some u
theorem HasC.of {p : Addr} {w : World} {u : Value} (h : w.cell? p = some u) : HasC p w := ⟨u, h⟩
theorem HasC.set {p q : Addr} {w : World} (h : HasC p w) (x : Value) : HasC p (w.setCell q x) := by
  obtain ⟨u, h⟩ := h
  by_cases e : p = q
  · subst e
    exact ⟨x, World.cell?_setCell_same _ _ _ h⟩
  · exact ⟨u, by rw [World.cell?_setCell_other _ _ _ _ (fun e2 => e (by first | exact e2 | exact e2.symm))]; exact h⟩
/-- The new slice of views at block g, the new view. -/
def NewV (L g n : Nat) (vs : List VwV) (a : VwV) (w : World) : Prop := Rd w w.heap.size 1 (some ⟨g, 0, none⟩) n (vs.map vwv) ∧ a.R L w
theorem NewV.of {m : MemV} {g n t : Nat} {a : VwV} {w : World} (hn : m.vs.length = n) (ht : t < n) (h : (m.with (some ⟨g, 0, none⟩) n t a).R w) : NewV m.hs.length g n (m.vs.set t a) a w := by
  have e1 : (m.vs.set t a).length = n := by rw [List.length_set, hn]
  have h1 : Rd w w.heap.size 1 (some ⟨g, 0, none⟩) (m.vs.set t a).length ((m.vs.set t a).map vwv) := h.2.2.2.1
  rw [e1] at h1
  exact ⟨h1, h.2.2.2.2 a (List.mem_of_getElem? (i := t) (by show (m.vs.set t a)[t]? = some a; rw [List.getElem?_set, if_pos rfl, if_pos (by omega)]))⟩
theorem NewV.below {L g n : Nat} {vs : List VwV} {a : VwV} {w w' : World} (h : NewV L g n vs a w) (hb : Below w.heap.size w w') : NewV L g n vs a w' := ⟨(h.1.below hb).more hb.size, h.2.below hb⟩
theorem NewV.alloc {L g n : Nat} {vs : List VwV} {a : VwV} {w : World} (h : NewV L g n vs a w) (o : Array Value) (t : TypeId) : NewV L g n vs a (w.alloc (.cells o t)) := h.below (Below.alloc (Below.refl _ _) (Nat.le_refl _) _)
theorem NewV.rd {L g n : Nat} {vs : List VwV} {a : VwV} {w : World} (h : NewV L g n vs a w) : Rd w w.heap.size 1 (some ⟨g, 0, none⟩) n (vs.map vwv) := h.1
theorem NewV.r {L g n : Nat} {vs : List VwV} {a : VwV} {w : World} (h : NewV L g n vs a w) : a.R L w := h.2
theorem NewV.lt {L g n : Nat} {vs : List VwV} {a : VwV} {w : World} (h : NewV L g n vs a w) (hn : 0 < n) : g < w.heap.size := by
  obtain ⟨b, off, e, hb, _⟩ := h.1.2 (by omega)
  injection e with e
  injection e with e _
  omega
theorem NewV.drew {L g n : Nat} {vs : List VwV} {a : VwV} {w : World} (h : NewV L g n vs a w) : NewV L g n vs a w.drew := h.below (Below.drew (Below.refl _ _))
theorem NewV.set {L g n c o : Nat} {vs : List VwV} {a : VwV} {w : World} (h : NewV L g n vs a w) (hne : c ≠ g) (hc : HasC ⟨c, o, none⟩ w) (x : Value) : NewV L g n vs a (w.setCell ⟨c, o, none⟩ x) := by
  obtain ⟨u, hc⟩ := hc
  refine ⟨?_, h.2.setCell hc x⟩
  have h1 := h.1.set_far (c := c) (o := o) hne x
  have e : (w.setCell ⟨c, o, none⟩ x).heap.size = w.heap.size := by simp
  rw [e]
  exact h1
end Go.Proofs.YtfdndkgjmmeafaaGreatDoor

namespace Go.Proofs.YtfdndkgjmmeafaaGreatDoor
set_option linter.unusedSimpArgs false
set_option linter.unusedVariables false
open Go.RowKit Go.Maps
set_option maxHeartbeats 2000000 in
set_option maxRecDepth 100000 in
theorem mem_finds_no (m : MemV) (t k i : Nat) (h : HistV) (g : MsgV) (a : VwV) (w : World) (hR : m.R w) (hh : m.hs[k]? = some h) (hg : h.l[i]? = some g) (ha : m.vs[t]? = some a) (hn : m.vs.length ≤ 1000) (hL : m.hs.length ≤ 4096) (hi6 : i ≤ 1000000) :
    Calls Tryz.prog 171 #[(.agg #[.slice (m).pA (m).hs.length (m).pc, .slice (m).vA (m).vs.length (m).vc]), .int .i64 ((t : Int) + 1), .int .i64 k, .int .i64 i, .bool false] w fun e w' => ∃ G v', e = .returned (.tuple #[.agg #[.slice m.pA m.hs.length m.pc, .slice (some ⟨G, 0, none⟩) m.vs.length m.vs.length], (.agg #[.int .i64 (g.x).v, .int .u32 (g.x).r, .int .u32 (g.x).f])]) ∧ w.heap.size ≤ G ∧ (m.with (some ⟨G, 0, none⟩) m.vs.length t ⟨v', withF a.f k i⟩).R w' ∧ Below w.heap.size w w' := by
  have hkn : k < m.hs.length := (List.getElem?_eq_some_iff.1 hh).1
  have htn : t < m.vs.length := (List.getElem?_eq_some_iff.1 ha).1
  have hhR : h.R m.hs.length w := hR.1.2.2.2 h (List.mem_of_getElem? hh)
  have haR : a.R m.hs.length w := hR.2.2.2.2 a (List.mem_of_getElem? ha)
  have hgR : g.a.R m.hs.length w := hhR.2.2.2 g (List.mem_of_getElem? hg)
  obtain ⟨b, off, e, hb, c0⟩ := Rd.one hR.1.2.2.1 hkn hh
  obtain ⟨pA, pc, hs, vA, vc, vs⟩ := m
  simp only at e hkn htn hhR haR hgR hn hL hh ha
  subst e
  obtain ⟨m, hm⟩ : ∃ m, m = MemV.mk (some ⟨b, off, none⟩) pc hs vA vc vs := ⟨_, rfl⟩
  rw [← hm] at hR
  have hat := fun W (hw : h.R hs.length W) => hist_at hs.length h i g W hw hg
  have hseen := fun W (hw : m.R W) => mem_seen m t a W hw (by rw [hm]; exact ha) (by rw [hm]; exact hn)
  have hwith := fun W (hw : a.R hs.length W) => view_with hs.length hL a k i W hw (by omega) (by omega) (WalkArith.wf_i64 (by omega))
  have hmw := fun (x : VwV) W (hw : m.R W) (hx : x.R hs.length W) => mem_with m t x W hw (by rw [hm]; exact htn) (by rw [hm]; exact hn) (by rw [hm]; exact hx)
  simp only [hm] at hseen hmw
  rw [hm] at hR
  have Hat := hide hat
  have Hseen := hide hseen
  have Hwith := hide hwith
  have Hmw := hide hmw
  have HR := hide hR
  have Hh := hide hhR
  have HaR := hide haR
  have HgR := hide hgR
  have h0 : (0 : Int) ≤ (k : Int) := by omega
  have h1 : (k : Int) < (hs.length : Int) := by omega
  have hbz1 : b < w.heap.size + 1 := by omega
  have hbz2 : b < w.heap.size + 1 + 1 := by omega
  have hbz : b < w.heap.size + 1 + 1 + 1 := by omega
  unfold histv at c0
  clear hR hhR haR hgR hh hg ha hn hL hi6 hkn htn hm hat hseen hwith hmw
  go_enter Tryz.func171, Tryz.ntmps171
  go_wp2_with (first
    | (go_at_call 60; refine (Hseen.out _ (HR.out.below ab0)).mono ?_; rintro e w2 ⟨rfl, hb2⟩; obtain ⟨hcc2, hff2⟩ := bcell hb2; have hs2 := hb2.size; (try simp at hs2); have hz2 : w.heap.size < w2.heap.size := (by omega); have hz2a : w.heap.size + 1 < w2.heap.size := (by omega); have hz2b : w.heap.size + 1 + 1 < w2.heap.size := (by omega); have hz2c : w1.heap.size < w2.heap.size := (by omega))
    | (go_at_call 168; refine (Hwith.out _ (HaR.out.below ab0)).mono ?_; rintro e w3 ⟨v3, rfl, hv3, hb3⟩; obtain ⟨hcc3, hff3⟩ := bcell hb3; have hs3 := hb3.size; (try simp at hs3); have hz3 : w.heap.size < w3.heap.size := (by omega); have hz3a : w.heap.size + 1 < w3.heap.size := (by omega); have hz3b : w.heap.size + 1 + 1 < w3.heap.size := (by omega); have hz3c : w1.heap.size < w3.heap.size := (by omega); have Hv3 := hide hv3; clear hv3)
    | (go_at_call 58; refine (Hat.out _ (Hh.out.below ab0)).mono ?_; rintro e w1 ⟨rfl, hb1⟩; obtain ⟨hcc1, hff1⟩ := bcell hb1; have hs1 := hb1.size; (try simp at hs1); have hz1 : w.heap.size < w1.heap.size := (by omega); have hz1a : w.heap.size + 1 < w1.heap.size := (by omega); have hz1b : w.heap.size + 1 + 1 < w1.heap.size := (by omega)))
  obtain ⟨wa, hwa⟩ : ∃ wa : World, wa = w3.alloc (.cells #[.map v3] 133) := ⟨_, rfl⟩
  have q0 : wa.cell? ⟨w.heap.size, 0, none⟩ = some (.slice (some ⟨b, off, none⟩) hs.length pc) := by rw [hwa]; go_simp
  have q1 : wa.cell? ⟨w.heap.size, 1, none⟩ = some (.slice vA vs.length vc) := by rw [hwa]; go_simp
  have q2 : wa.cell? ⟨w3.heap.size, 0, none⟩ = some (.map v3) := by rw [hwa]; go_simp
  have q3 : wa.cell? ⟨w1.heap.size, 0, none⟩ = some (.int .i64 g.x.v) := by rw [hwa]; go_simp
  have q4 : wa.cell? ⟨w1.heap.size, 1, none⟩ = some (.int .u32 g.x.r) := by rw [hwa]; go_simp
  have q5 : wa.cell? ⟨w1.heap.size, 2, none⟩ = some (.int .u32 g.x.f) := by rw [hwa]; go_simp
  have r0 : wa.cell? ⟨w.heap.size + 1, 0, none⟩ = some (.slice none 0 0) := by rw [hwa]; go_simp
  have r1 : wa.cell? ⟨w.heap.size + 1, 1, none⟩ = some (.slice none 0 0) := by rw [hwa]; go_simp
  have r2 : wa.cell? ⟨w.heap.size + 1 + 1, 0, none⟩ = some (.int .i64 0) := by rw [hwa]; go_simp
  have r3 : wa.cell? ⟨w.heap.size + 1 + 1, 1, none⟩ = some (.int .u32 0) := by rw [hwa]; go_simp
  have r4 : wa.cell? ⟨w.heap.size + 1 + 1, 2, none⟩ = some (.int .u32 0) := by rw [hwa]; go_simp
  have f0 : ∀ o, wa.frozen? ⟨w.heap.size + 1, o, none⟩ = false := by intro o; rw [hwa]; go_simp
  have f1 : ∀ o, wa.frozen? ⟨w.heap.size + 1 + 1, o, none⟩ = false := by intro o; rw [hwa]; go_simp
  have hBa : Below w.heap.size w wa := by rw [hwa]; exact ab0
  have hVa : VwV.R hs.length wa ⟨v3, withF a.f k i⟩ := by rw [hwa]; exact Hv3.out.below (Below.alloc (Below.refl _ _) (Nat.le_refl _) _)
  have HVa := hide hVa
  have hza : wa.heap.size = w3.heap.size + 1 := by rw [hwa]; simp
  have hA0 : w.heap.size < wa.heap.size := by omega
  have hA1 : w.heap.size + 1 < wa.heap.size := by omega
  have hA2 : w.heap.size + 1 + 1 < wa.heap.size := by omega
  have hA3 : w3.heap.size < wa.heap.size := by omega
  have hA4 : w1.heap.size < wa.heap.size := by omega
  rw [← hwa]
  clear hwa hza hVa hcc1 hcc2 hcc3 hff1 hff2 hff3 hb1 hb2 hb3 Hv3 Hat Hseen Hwith
  refine wp_region_held_drew (S := (fun w' => (w'.cell? ⟨w.heap.size, 0, none⟩ = some (.slice (some ⟨b, off, none⟩) hs.length pc) ∧ w'.cell? ⟨w.heap.size, 1, none⟩ = some (.slice vA vs.length vc) ∧ w'.cell? ⟨w3.heap.size, 0, none⟩ = some (.map v3)) ∧ w'.cell? ⟨w1.heap.size, 0, none⟩ = some (.int .i64 g.x.v) ∧ w'.cell? ⟨w1.heap.size, 1, none⟩ = some (.int .u32 g.x.r) ∧ w'.cell? ⟨w1.heap.size, 2, none⟩ = some (.int .u32 g.x.f))) (by kernel_rfl) ab22 (fun hHeld => ?_)
  refine wpAnyH_take (i := 0) (v := ?_) (oi := { dst := some 36, op := Op.load 34 (Operand.tmp 5), type := 34, pos := "memory.go:91", after := #[], guard := none }) (by rfl) (by kernel_rfl) (by kernel_rfl) (by kernel_rfl) (fun _ _ _ h => h) (Or.inl ⟨by rfl, ?_⟩) (by assumption) ?_; rotate_left; focus (intro wTk hSw; (try dsimp only at hSw); go_simp; (try with_reducible rfl); done)
  (try simp only [Act.put, List.setIfInBounds_toArray, List.set_cons_zero, List.set_cons_succ])
  refine wpAnyH_take (i := 1) (v := ?_) (oi := { dst := some 37, op := Op.move (Operand.tmp 1), type := 3, pos := "memory.go:91", after := #[], guard := none }) (by rfl) (by kernel_rfl) (by kernel_rfl) (by kernel_rfl) (fun _ _ _ h => h) (Or.inl ⟨by rfl, ?_⟩) (by assumption) ?_; rotate_left; focus (intro wTk hSw; (try dsimp only at hSw); go_simp; (try with_reducible rfl); done)
  (try simp only [Act.put, List.setIfInBounds_toArray, List.set_cons_zero, List.set_cons_succ])
  refine wpAnyH_take (i := 2) (v := ?_) (oi := { dst := some 38, op := Op.load 133 (Operand.tmp 14), type := 133, pos := "memory.go:91", after := #[], guard := none }) (by rfl) (by kernel_rfl) (by kernel_rfl) (by kernel_rfl) (fun _ _ _ h => h) (Or.inl ⟨by rfl, ?_⟩) (by assumption) ?_; rotate_left; focus (intro wTk hSw; (try dsimp only at hSw); go_simp; (try with_reducible rfl); done)
  (try simp only [Act.put, List.setIfInBounds_toArray, List.set_cons_zero, List.set_cons_succ])
  refine wpAnyH_take (i := 4) (v := ?_) (oi := { dst := some 40, op := Op.fieldAddr 135 (Operand.tmp 12) 0, type := 0, pos := "memory.go:91", after := #[{ on := 6, ground := Ground.gcOnly Departure.lateStores }], guard := none }) (by rfl) (by kernel_rfl) (by kernel_rfl) (by kernel_rfl) (fun _ _ _ h => h) (Or.inl ⟨by rfl, ?_⟩) (by assumption) ?_; rotate_left; focus (intro wTk hSw; (try dsimp only at hSw); go_simp; (try with_reducible rfl); done)
  (try simp only [Act.put, List.setIfInBounds_toArray, List.set_cons_zero, List.set_cons_succ])
  refine wpAnyH_take (i := 5) (v := ?_) (oi := { dst := some 41, op := Op.load 25 (Operand.tmp 40), type := 25, pos := "memory.go:91", after := #[{ on := 4, ground := Ground.data }, { on := 6, ground := Ground.gcOnly Departure.lateStores }], guard := none }) (by rfl) (by kernel_rfl) (by kernel_rfl) (by kernel_rfl) (fun _ _ _ h => h) (Or.inl ⟨by rfl, ?_⟩) (by assumption) ?_; rotate_left; focus (intro wTk hSw; (try dsimp only at hSw); go_simp; (try with_reducible rfl); done)
  (try simp only [Act.put, List.setIfInBounds_toArray, List.set_cons_zero, List.set_cons_succ])
  refine wpAnyH_ready (rs := [3]) (by kernel_rfl) (by simp) ?_
  refine AllReadyH.cons (o := { dst := some 39, op := Op.call { callee := Callee.value (Operand.func 170), args := #[Operand.tmp 36, Operand.tmp 37, Operand.tmp 38], argTypes := #[34, 3, 133] }, type := 34, pos := "memory.go:91", after := #[{ on := 0, ground := Ground.data }, { on := 1, ground := Ground.data }, { on := 2, ground := Ground.data }], guard := none }) (by rfl) (fun K hK => ?_) (AllReadyH.nil)
  go_simp
  (go_at_call 170; refine (Hmw.out ⟨v3, _⟩ _ (HR.out.below ab0) (HVa.out.below ab0)).mono ?_; rintro e w5 ⟨g5, rfl, hg5, hm5, hb5'⟩; (try simp at hg5); have hb5 : Below wa.heap.size wa w5 := ab7; clear hb5'; obtain ⟨hcc5, hff5⟩ := bcell hb5; have hs5 := hb5.size; have Hm5 := hide (MemV.with_rd hm5 rfl); clear hm5; have hz5a : w.heap.size + 1 < w5.heap.size := (by omega); have hz5b : w.heap.size + 1 + 1 < w5.heap.size := (by omega))
  go_wp2_with fail
  refine hK.out _ _ ab22 (fun hHeld => ?_)
  clear hK K
  (try simp only [Act.put, List.setIfInBounds_toArray, List.set_cons_zero, List.set_cons_succ])
  refine wpAnyH_ready (rs := [6]) (by kernel_rfl) (by simp) ?_
  refine AllReadyH.cons (o := { dst := none, op := Op.store 34 (Operand.tmp 10) (Operand.tmp 39), type := 0, pos := "memory.go:91", after := #[{ on := 3, ground := Ground.data }, { on := 3, ground := Ground.chain }, { on := 0, ground := Ground.phase }, { on := 1, ground := Ground.phase }, { on := 2, ground := Ground.phase }, { on := 3, ground := Ground.phase }, { on := 4, ground := Ground.textOnly Departure.lateStores }, { on := 5, ground := Ground.textOnly Departure.lateStores }], guard := none }) (by rfl) (fun K hK => ?_) (AllReadyH.nil)
  go_simp
  skip
  go_wp2_with fail
  refine hK.out _ _ ab22 (fun hHeld => ?_)
  clear hK K
  (try simp only [Act.put, List.setIfInBounds_toArray, List.set_cons_zero, List.set_cons_succ])
  refine wpAnyH_ready (rs := [7]) (by kernel_rfl) (by simp) ?_
  refine AllReadyH.cons (o := { dst := none, op := Op.store 25 (Operand.tmp 11) (Operand.tmp 41), type := 0, pos := "memory.go:91", after := #[{ on := 5, ground := Ground.data }, { on := 6, ground := Ground.chain }, { on := 0, ground := Ground.phase }, { on := 1, ground := Ground.phase }, { on := 2, ground := Ground.phase }, { on := 3, ground := Ground.phase }, { on := 4, ground := Ground.phase }, { on := 5, ground := Ground.phase }, { on := 6, ground := Ground.phase }], guard := none }) (by rfl) (fun K hK => ?_) (AllReadyH.nil)
  go_simp
  skip
  go_wp2_with fail
  refine hK.out _ _ ab22 (fun hHeld => ?_)
  clear hK K
  (try simp only [Act.put, List.setIfInBounds_toArray, List.set_cons_zero, List.set_cons_succ])
  refine wpAnyH_done (by kernel_rfl) ?_ _
  all_goals go_wp2_with fail
  all_goals have s0 : ∀ u, (((w5.setCell ⟨w.heap.size + 1, 0, none⟩ (.slice (some ⟨b, off, none⟩) hs.length pc)).setCell ⟨w.heap.size + 1, 1, none⟩ (.slice (some ⟨g5, 0, none⟩) vs.length vs.length)).setCell ⟨w.heap.size + 1 + 1, 0, none⟩ u).heap.size = w5.heap.size := fun u => by simp
  all_goals refine bodyPost_ret (v := .tuple #[.agg #[.slice (some ⟨b, off, none⟩) hs.length pc, .slice (some ⟨g5, 0, none⟩) vs.length vs.length], (.agg #[.int .i64 (g.x).v, .int .u32 (g.x).r, .int .u32 (g.x).f])]) (by simp [results, Tryz.results171, go_sem]; (try go_simp)) rfl ⟨_, v3, rfl, by omega, MemV.with_R HR.out ab0 rfl ?_ ?_, ab0⟩
  all_goals first
    | (refine Rd.more (Rd.set_far (Rd.set_far (Rd.set_far (Rd.set_far (Rd.set_far Hm5.out ?_ _) ?_ _) ?_ _) ?_ _) ?_ _) (by simp) <;> omega)
    | exact (((((HVa.out.below hb5).setCell (u := .slice none 0 0) (by go_simp) _).setCell (u := .slice none 0 0) (by go_simp) _).setCell (u := .int .i64 0) (by go_simp) _).setCell (u := .int .u32 0) (by go_simp) _).setCell (u := .int .u32 0) (by go_simp) _
theorem mem_finds (j : Bool) (m : MemV) (t k i : Nat) (h : HistV) (g : MsgV) (a : VwV) (w : World) (hR : m.R w) (hh : m.hs[k]? = some h) (hg : h.l[i]? = some g) (ha : m.vs[t]? = some a) (hn : m.vs.length ≤ 1000) (hL : m.hs.length ≤ 4096) (hi6 : i ≤ 1000000) :
    Calls Tryz.prog 171 #[(.agg #[.slice (m).pA (m).hs.length (m).pc, .slice (m).vA (m).vs.length (m).vc]), .int .i64 ((t : Int) + 1), .int .i64 k, .int .i64 i, .bool j] w fun e w' => ∃ G v', e = .returned (.tuple #[.agg #[.slice m.pA m.hs.length m.pc, .slice (some ⟨G, 0, none⟩) m.vs.length m.vs.length], (.agg #[.int .i64 (g.x).v, .int .u32 (g.x).r, .int .u32 (g.x).f])]) ∧ w.heap.size ≤ G ∧ (m.with (some ⟨G, 0, none⟩) m.vs.length t ⟨v', findF j a.f g.a.f k i⟩).R w' ∧ Below w.heap.size w w' := by
  cases j
  · exact mem_finds_no m t k i h g a w hR hh hg ha hn hL hi6
  · exact mem_finds_yes m t k i h g a w hR hh hg ha hn hL hi6
end Go.Proofs.YtfdndkgjmmeafaaGreatDoor

