/- Package memory: adds. -/
import Derived.Test.YtnnmenmifphadaaGreatDoorU06
import Derived.Test.YtnnmenmifphadaaGreatDoorU11
import Derived.Test.YtnnmenmifphadaaGreatDoorU23
set_option linter.unusedSimpArgs false
set_option linter.unusedVariables false
set_option maxRecDepth 100000
set_option maxHeartbeats 40000000
namespace Go.Proofs.YtnnmenmifphadaaGreatDoor
open Go.RowKit Go.Maps
def VwR (L : Nat) (a : VwV) (w : World) : Prop := a.R L w
theorem VwR.alloc {L : Nat} {a : VwV} {w : World} (h : VwR L a w) (o : Array Value) (t : TypeId) : VwR L a (w.alloc (.cells o t)) := VwV.R.below h (Below.alloc (Below.refl _ _) (Nat.le_refl _) _)
theorem VwR.drew {L : Nat} {a : VwV} {w : World} (h : VwR L a w) : VwR L a w.drew := VwV.R.below h (Below.drew (Below.refl _ _))
theorem VwR.below {L : Nat} {a : VwV} {w w' : World} (h : VwR L a w) (hb : Below w.heap.size w w') : VwR L a w' := VwV.R.below h hb
theorem VwR.set {L : Nat} {a : VwV} {w : World} {p : Addr} (h : VwR L a w) (hc : HasC p w) (x : Value) : VwR L a (w.setCell p x) := by
 obtain ⟨u, hc⟩ := hc
 exact VwV.R.setCell h hc x
theorem slice_tail (n pc k b off : Nat) (hk : k + 1 ≤ n) (hp : n ≤ pc) (W : World) : (Instr.slice 26 (.slice (some ⟨b, off, none⟩) n pc) (some (.int .i64 ((k : Int) + 1))) none none).run Tryz.prog W = .ok (.slice (some (if pc = k + 1 then ⟨b, off, none⟩ else ⟨b, off + (k + 1), none⟩)) (n - (k + 1)) (pc - (k + 1))) W := by
 have hs : (sizeOf (Tryz.prog.elem 26)).run Tryz.prog W = .ok 1 W := by kernel_rfl
 rw [run_slice_l W 26 _ _ _ kR .i64 _ oM oM, hs]
 have e4 : ((k : Int) + 1).toNat = k + 1 := by omega
 simp only [Result.andThen, sliced, e4]
 by_cases h : pc = k + 1
 ·simp [h]
 ·simp [h, Addr.add]
theorem Rd.take1 {α : Type} {w : World} {B n k : Nat} {A : Option Addr} {g : α → Value} {l : List α} (h : Rd w B 1 A n (l.map g)) (hk : k ≤ n) : Rd w B 1 A k ((l.take k).map g) := by
 obtain ⟨h1, h2⟩ := h
 rw [List.length_map] at h1
 refine ⟨by rw [List.length_map, List.length_take]; omega, fun hn => ?_⟩
 obtain ⟨b, off, e, hB, hc⟩ := h2 oM
 refine ⟨b, off, e, hB, fun j u hu => hc j u ?_⟩
 rw [List.getElem?_map] at hu ⊢
 have hj : j < k := by
  by_cases hj : j < k
  ·exact hj
  ·rw [List.getElem?_eq_none (by simp; omega)] at hu
   cases hu
 rw [List.getElem?_take_of_lt hj] at hu
 exact hu
theorem Rd.drop1 {α : Type} {w : World} {B n k b off : Nat} {g : α → Value} {l : List α} (h : Rd w B 1 (some ⟨b, off, none⟩) n (l.map g)) (hk : k ≤ n) : Rd w B 1 (some ⟨b, off + k, none⟩) (n - k) ((l.drop k).map g) := by
 obtain ⟨h1, h2⟩ := h
 rw [List.length_map] at h1
 refine ⟨by rw [List.length_map, List.length_drop]; omega, fun hn => ?_⟩
 obtain ⟨b', off', e, hB, hc⟩ := h2 oM
 injection e with e
 injection e with e1 e2
 subst e1 e2
 refine ⟨b, off + k, rfl, hB, fun j u hu => ?_⟩
 rw [List.getElem?_map, List.getElem?_drop] at hu
 rw [Nat.add_assoc]
 exact hc (k + j) u (by rw [List.getElem?_map]; exact hu)
theorem tail_rd {w : World} {B n pc k b off : Nat} {l : List HistV} (h : Rd w B 1 (some ⟨b, off, none⟩) n (l.map histv)) (hk : k + 1 ≤ n) (hp : n ≤ pc) : ∃ (A : Option Addr) (c : Nat), (∀ W, (Instr.slice 26 (.slice (some ⟨b, off, none⟩) n pc) (some (.int .i64 ((k : Int) + 1))) none none).run Tryz.prog W = .ok (.slice A (n - (k + 1)) c) W) ∧ Hid (Rd w B 1 A (n - (k + 1)) ((l.drop (k + 1)).map histv)) := by
 refine ⟨_, _, fun W => slice_tail n pc k b off hk hp W, ?_⟩
 by_cases e : pc = k + 1
 ·rw [if_pos e, show n - (k + 1) = 0 by omega, List.drop_of_length_le (by have := h.1; rw [List.length_map] at this; omega)]
  exact Rd.nil _ _ _ _
 ·rw [if_neg e]
  exact Rd.drop1 h hk
theorem histR_set {L : Nat} {w : World} {h : HistV} {g c o : Nat} (hr : h.R L w) (hA : h.A = some ⟨g, 0, none⟩) (hne : c ≠ g) (hc : HasC ⟨c, o, none⟩ w) (x : Value) : h.R L (w.setCell ⟨c, o, none⟩ x) := by
 obtain ⟨u, hc⟩ := hc
 obtain ⟨h1, h2, h3, h4⟩ := hr
 rw [hA] at h3
 refine ⟨h1, h2, ?_, fun m hm => (h4 m hm).setCell hc x⟩
 rw [hA, show (w.setCell ⟨c, o, none⟩ x).heap.size = w.heap.size by simp]
 exact Rd.set_far h3 hne x
theorem mem_put {w w' : World} {m : MemV} {k g c n : Nat} {h' : HistV} {xs : List Value} (HR : m.R w) (hb : Below w.heap.size w w') (hn : m.hs.length = n) (hk : k < n) (hrd : Rd w' w'.heap.size 1 (some ⟨g, 0, none⟩) n xs) (hxs : xs = (m.hs.take k).map histv ++ [histv h'] ++ (m.hs.drop (k + 1)).map histv) (hc : n ≤ c) (hh : h'.R n w') : MemV.R w' ⟨some ⟨g, 0, none⟩, c, m.hs.set k h', m.vA, m.vc, m.vs⟩ := by
 have hF := HR.below hb
 have e1 : (m.hs.set k h').length = n := by rw [List.length_set, hn]
 have e2 : xs = (m.hs.set k h').map histv := by
  rw [hxs, List.set_eq_take_append_cons_drop, if_pos oM]
  simp
 subst e2
 refine ⟨?_, ?_⟩
 ·show (m.hs.set k h').length ≤ c ∧ (some (⟨g, 0, none⟩ : Addr) = none → (m.hs.set k h').length = 0) ∧ Rd w' w'.heap.size 1 (some ⟨g, 0, none⟩) (m.hs.set k h').length ((m.hs.set k h').map histv) ∧ ∀ x ∈ m.hs.set k h', x.R (m.hs.set k h').length w'
  rw [e1]
  refine ⟨hc, (fun e => by cases e), hrd, fun x hx => ?_⟩
  rcases List.mem_or_eq_of_mem_set hx with hx | rfl
  ·exact hn ▸ hF.1.2.2.2 x hx
  ·exact hh
 ·show m.vs.length ≤ m.vc ∧ (m.vA = none → m.vs.length = 0) ∧ Rd w' w'.heap.size 1 m.vA m.vs.length (m.vs.map vwv) ∧ ∀ a ∈ m.vs, a.R (m.hs.set k h').length w'
  rw [e1, ← hn]
  exact hF.2
theorem info_hist : (Tryz.prog.info? 115).map (fun i => (i.zero, i.size, i.bytes)) = some (some (.agg #[.slice none 0 0]), 1, 24) := by kernel_rfl
theorem abD2 {p : Prop} (h : p := by
 refine wp_region_held_drew (S := (HX w.heap.size [.slice (some ⟨b, off, none⟩) hs.length pc, .slice vA vs.length vc] (w.heap.size + 1 + 1 + 1) 0 (.slice h.A h.l.length h.cap) ([]))) kR ab5 (fun hHeld => ?_)
 (try simp only [HX_drew] at hHeld)
 refine tq2 0 ?_
 refine tq2 1 ?_
 refine tq2 3 ?_
 refine tq2 4 ?_
 refine wR (rs := [2, 7]) ?_
 focus
  refine aI (fun K hK => ?_) (aE fun K hK => ?_)
  focus
   go_simp
   (go_at_call 47; refine (Hseen.out _ (HR.out.below ab0)).mono ?_; rintro e w2 ⟨rfl, hb2'⟩; have hb2 : Below _ _ w2 := ab15; have hsw2 := (hb2).size; (try simp at hsw2))
   go_wp2_with fail
   refine oK hK ab5 fun hHeld => ?_
   clear hK K
   refine wR (rs := [5, 7]) ?_
   refine aI (fun K hK => ?_) (aE fun K hK => ?_)
   focus
    go_simp
    (go_at_call 46; refine (hist_len h _).mono ?_; rintro e w3 ⟨rfl, hb3'⟩; have hb3 : Below _ _ w3 := ab17; have hsw3 := (hb3).size; (try simp at hsw3))
    go_wp2_with fail
    refine oK hK ab5 fun hHeld => ?_
    clear hK K
    refine wR (rs := [6, 7]) ?_
    refine aI (fun K hK => ?_) (aE fun K hK => ?_)
    focus
     go_simp
     (go_at_call 167; refine (Hwith.out _ (HaR.out.below ab0)).mono ?_; rintro e w4 ⟨v4, rfl, hv4, hb4'⟩; have hb4 : Below _ _ w4 := ab10; have hsw4 := (hb4).size; (try simp at hsw4); have Hv4 : Hid (VwR hs.length ⟨v4, withF a.f k h.l.length⟩ w4) := hide hv4; clear hv4)
     go_wp2_with fail
     refine oK hK ab5 fun hHeld => ?_
     clear hK K
     refine wE 7 fun K hK => ?_
     go_simp
     go_wp2_with fail
     refine oS hK (S' := (HX _ _ _ _ _ ((w4.heap.size, 1) :: _))) (fun w h => HX.pop h) ab3 fun hHeld => ?_
     clear hK K
     refine wE 8 fun K hK => ?_
     have hE := hHeld.box (B := (w4.heap.size)) (n := 1) sM; have kf := hE.fz; obtain ⟨u0, k0⟩ := hE.at (j := 0) oM
     go_simp
     go_wp2_with fail
     refine oK hK ab1 fun hHeld => ?_
     clear hK K
     refine wD ?_
    rotate_left 1
    focus
     go_simp
     go_wp2_with fail
     refine oS hK (S' := (HX _ _ _ _ _ ((w3.heap.size, 1) :: _))) (fun w h => HX.pop h) ab3 fun hHeld => ?_
     clear hK K
     refine wE 6 fun K hK => ?_
     go_simp
     (go_at_call 167; refine (Hwith.out _ (HaR.out.below ab0)).mono ?_; rintro e w4 ⟨v4, rfl, hv4, hb4'⟩; have hb4 : Below _ _ w4 := ab10; have hsw4 := (hb4).size; (try simp at hsw4); have Hv4 : Hid (VwR hs.length ⟨v4, withF a.f k h.l.length⟩ w4) := hide hv4; clear hv4)
     go_wp2_with fail
     refine oK hK ab2 fun hHeld => ?_
     clear hK K
     refine wE 8 fun K hK => ?_
     have hE := hHeld.box (B := (w3.heap.size)) (n := 1) sM; have kf := hE.fz; obtain ⟨u0, k0⟩ := hE.at (j := 0) oM
     go_simp
     go_wp2_with fail
     refine oK hK ab1 fun hHeld => ?_
     clear hK K
     refine wD ?_
    rotate_left 1
   rotate_left 2
   focus
    go_simp
    go_wp2_with fail
    refine oS hK (S' := (HX _ _ _ _ _ ((w2.heap.size, 1) :: _))) (fun w h => HX.pop h) ab3 fun hHeld => ?_
    clear hK K
    refine wE 5 fun K hK => ?_
    go_simp
    (go_at_call 46; refine (hist_len h _).mono ?_; rintro e w3 ⟨rfl, hb3'⟩; have hb3 : Below _ _ w3 := ab17; have hsw3 := (hb3).size; (try simp at hsw3))
    go_wp2_with fail
    refine oK hK ab2 fun hHeld => ?_
    clear hK K
    refine wE 6 fun K hK => ?_
    go_simp
    (go_at_call 167; refine (Hwith.out _ (HaR.out.below ab0)).mono ?_; rintro e w4 ⟨v4, rfl, hv4, hb4'⟩; have hb4 : Below _ _ w4 := ab10; have hsw4 := (hb4).size; (try simp at hsw4); have Hv4 : Hid (VwR hs.length ⟨v4, withF a.f k h.l.length⟩ w4) := hide hv4; clear hv4)
    go_wp2_with fail
    refine oK hK ab2 fun hHeld => ?_
    clear hK K
    refine wE 8 fun K hK => ?_
    have hE := hHeld.box (B := (w2.heap.size)) (n := 1) sM; have kf := hE.fz; obtain ⟨u0, k0⟩ := hE.at (j := 0) oM
    go_simp
    go_wp2_with fail
    refine oK hK ab1 fun hHeld => ?_
    clear hK K
    refine wD ?_
   rotate_left 1
  rotate_left 3
  focus
   go_simp
   go_wp2_with fail
   refine oS hK (S' := (HX _ _ _ _ _ ((w1.heap.size, 1) :: _))) (fun w h => HX.pop h) ab3 fun hHeld => ?_
   clear hK K
   refine wE 2 fun K hK => ?_
   go_simp
   (go_at_call 47; refine (Hseen.out _ (HR.out.below ab0)).mono ?_; rintro e w2 ⟨rfl, hb2'⟩; have hb2 : Below _ _ w2 := ab15; have hsw2 := (hb2).size; (try simp at hsw2))
   go_wp2_with fail
   refine oK hK ab2 fun hHeld => ?_
   clear hK K
   refine wE 5 fun K hK => ?_
   go_simp
   (go_at_call 46; refine (hist_len h _).mono ?_; rintro e w3 ⟨rfl, hb3'⟩; have hb3 : Below _ _ w3 := ab17; have hsw3 := (hb3).size; (try simp at hsw3))
   go_wp2_with fail
   refine oK hK ab2 fun hHeld => ?_
   clear hK K
   refine wE 6 fun K hK => ?_
   go_simp
   (go_at_call 167; refine (Hwith.out _ (HaR.out.below ab0)).mono ?_; rintro e w4 ⟨v4, rfl, hv4, hb4'⟩; have hb4 : Below _ _ w4 := ab10; have hsw4 := (hb4).size; (try simp at hsw4); have Hv4 : Hid (VwR hs.length ⟨v4, withF a.f k h.l.length⟩ w4) := hide hv4; clear hv4)
   go_wp2_with fail
   refine oK hK ab2 fun hHeld => ?_
   clear hK K
   refine wE 8 fun K hK => ?_
   have hE := hHeld.box (B := (w1.heap.size)) (n := 1) sM; have kf := hE.fz; obtain ⟨u0, k0⟩ := hE.at (j := 0) oM
   go_simp
   go_wp2_with fail
   refine oK hK ab1 fun hHeld => ?_
   clear hK K
   refine wD ?_
  rotate_left 1
 all_goals go_wp2_with fail
 all_goals go_meet
 all_goals exact ⟨_, v4, rfl, by omega, by go_simp, hide (by repeat' (first | with_reducible exact Hv4.out | with_reducible refine VwR.drew ?_ | with_reducible refine VwR.alloc ?_ _ _ | with_reducible refine VwR.set ?_ ?_ _ | with_reducible exact HasC.of aM | with_reducible refine HasC.set ?_ _ | omega)), ab0⟩) : p := h
theorem mem_adds (m : MemV) (t k : Nat) (h : HistV) (a : VwV) (x : W3) (w : World) (hR : m.R w) (hh : m.hs[k]? = some h) (ha : m.vs[t]? = some a) (hn : m.vs.length ≤ 1000) (hL : m.hs.length ≤ 4096) (hl6 : h.l.length ≤ 1000000) :
   Calls Tryz.prog 154 #[(.agg #[.slice (m).pA (m).hs.length (m).pc, .slice (m).vA (m).vs.length (m).vc]), .int .i64 ((t : Int) + 1), .int .i64 k, (w3V x), .bool true] w fun e w' => ∃ g9 pc' g7 cap' G v', e = .returned (.agg #[.slice (some ⟨g9, 0, none⟩) m.hs.length pc', .slice (some ⟨G, 0, none⟩) m.vs.length m.vs.length]) ∧ w.heap.size ≤ g9 ∧ w.heap.size ≤ g7 ∧ w.heap.size ≤ G ∧ (MemV.with ⟨some ⟨g9, 0, none⟩, pc', m.hs.set k ⟨some ⟨g7, 0, none⟩, cap', h.l ++ [⟨x, (t : Int) + 1, ⟨v', withF a.f k h.l.length⟩⟩]⟩, m.vA, m.vc, m.vs⟩ (some ⟨G, 0, none⟩) m.vs.length t ⟨v', withF a.f k h.l.length⟩).R w' ∧ Below w.heap.size w w' := by
 obtain ⟨i0, hi0, jz0, jz1, jz2⟩ := info_parts info_hist
 have hi := hide hi0
 have iz0 := hide jz0
 have iz1 := hide jz1
 have iz2 := hide jz2
 clear hi0 jz0 jz1 jz2
 have hkn : k < m.hs.length := (List.getElem?_eq_some_iff.1 hh).1
 have htn : t < m.vs.length := (List.getElem?_eq_some_iff.1 ha).1
 have hhR : h.R m.hs.length w := hR.1.2.2.2 h (List.mem_of_getElem? hh)
 have haR : a.R m.hs.length w := hR.2.2.2.2 a (List.mem_of_getElem? ha)
 have hpl := hR.1
 obtain ⟨b, off, e, hb, c0⟩ := Rd.one hR.1.2.2.1 hkn hh
 obtain ⟨pA, pc, hs, vA, vc, vs⟩ := m
 simp only at e hkn htn hhR haR hn hL hh ha hpl
 subst e
 obtain ⟨hpc, -, hrdP, hallP⟩ := hpl
 have Hpc := hide hpc
 have HrdP := hide hrdP
 have HallP := hide hallP
 obtain ⟨m, hm⟩ : ∃ m, m = MemV.mk (some ⟨b, off, none⟩) pc hs vA vc vs := ⟨_, rfl⟩
 rw [← hm] at hR
 have hseen := fun W (hw : m.R W) => mem_seen m t a W hw (by rw [hm]; exact ha) (by rw [hm]; exact hn)
 have hwith := fun W (hw : a.R hs.length W) => view_with hs.length hL a k h.l.length W hw oM oM (WalkArith.wf_i64 oM)
 have hadd := fun (g : MsgV) W (hw : h.R hs.length W) (hg : g.a.R hs.length W) => hist_add hs.length h g W hw hg hl6
 have hmw : ∀ (p' : Option Addr) (c' : Nat) (hs' : List HistV) (v : VwV) (W : World), MemV.R W ⟨p', c', hs', vA, vc, vs⟩ → hs'.length = hs.length → v.R hs.length W → Calls Tryz.prog 169 #[.agg #[.slice p' hs.length c', .slice vA vs.length vc], .int .i64 ((t : Int) + 1), .agg #[.map v.v]] W fun e w' => ∃ g, e = .returned (.agg #[.slice p' hs.length c', .slice (some ⟨g, 0, none⟩) vs.length vs.length]) ∧ W.heap.size ≤ g ∧ (MemV.with ⟨p', c', hs', vA, vc, vs⟩ (some ⟨g, 0, none⟩) vs.length t v).R w' ∧ Below W.heap.size W w' := by
   intro p' c' hs' v W hw e2 hx
   have hq := mem_with ⟨p', c', hs', vA, vc, vs⟩ t v W hw htn hn (by show v.R hs'.length W; rw [e2]; exact hx)
   simp only [e2] at hq
   exact hq
 simp only [hm] at hseen
 rw [hm] at hR
 have Hseen := hide hseen
 have Hwith := hide hwith
 have Hadd := hide hadd
 have Hmw := hide hmw
 have HR := hide hR
 have Hh := hide hhR
 have HaR := hide haR
 have h0 : (0 : Int) ≤ (k : Int) := by omega
 have h1 : (k : Int) < (hs.length : Int) := by omega
 have hbz1 : b < w.heap.size + 1 := by omega
 have hbz2 : b < w.heap.size + 1 + 1 := by omega
 have hbz : b < w.heap.size + 1 + 1 + 1 := by omega
 have hbz3 : b < w.heap.size + 1 + 1 + 1 + 1 := by omega
 have hk6 : k < 4096 := by omega
 have HL6 := hide hL
 unfold histv at c0
 clear hR hhR haR hh ha hn hL hl6 hm hseen hwith hadd hmw hpc hrdP hallP
 go_enter Tryz.func154, Tryz.ntmps154
 go_wp2_with fail
 obtain ⟨w1, hw1⟩ : ∃ W : World, W = ((((w.alloc (.cells #[.slice (some ⟨b, off, none⟩) hs.length pc, .slice vA vs.length vc] 29)).alloc (.cells #[.int .i64 x.v, .int .u32 x.r, .int .u32 x.f] 66)).alloc (.cells #[.slice none 0 0, .slice none 0 0] 29)).alloc (.cells #[.slice h.A h.l.length h.cap] 115)) := ⟨_, rfl⟩
 have hs1 : w.heap.size + 1 + 1 + 1 + 1 ≤ w1.heap.size := by rw [hw1]; simp
 have q0 : w1.cell? ⟨w.heap.size, 0, none⟩ = some (.slice (some ⟨b, off, none⟩) hs.length pc) := by rw [hw1]; go_simp
 have q1 : w1.cell? ⟨w.heap.size, 1, none⟩ = some (.slice vA vs.length vc) := by rw [hw1]; go_simp
 have x0 : w1.cell? ⟨w.heap.size + 1, 0, none⟩ = some (.int .i64 x.v) := by rw [hw1]; go_simp
 have x1 : w1.cell? ⟨w.heap.size + 1, 1, none⟩ = some (.int .u32 x.r) := by rw [hw1]; go_simp
 have x2 : w1.cell? ⟨w.heap.size + 1, 2, none⟩ = some (.int .u32 x.f) := by rw [hw1]; go_simp
 have r0 : w1.cell? ⟨w.heap.size + 1 + 1, 0, none⟩ = some (.slice none 0 0) := by rw [hw1]; go_simp
 have r1 : w1.cell? ⟨w.heap.size + 1 + 1, 1, none⟩ = some (.slice none 0 0) := by rw [hw1]; go_simp
 have q2 : w1.cell? ⟨w.heap.size + 1 + 1 + 1, 0, none⟩ = some (.slice h.A h.l.length h.cap) := by rw [hw1]; go_simp
 have fN : ∀ o, w1.frozen? ⟨w.heap.size, o, none⟩ = false := by intro o; rw [hw1]; go_simp
 have f1 : ∀ o, w1.frozen? ⟨w.heap.size + 1 + 1, o, none⟩ = false := by intro o; rw [hw1]; go_simp
 have hBa : Below w.heap.size w w1 := by rw [hw1]; exact ab0
 have HS : HX w.heap.size [.slice (some ⟨b, off, none⟩) hs.length pc, .slice vA vs.length vc] (w.heap.size + 1 + 1 + 1) 0 (.slice h.A h.l.length h.cap) [] w1 := ⟨BoxC.of2 q0 q1 (by intro o; exact fN o), CellB.of q2, by simp⟩
 rw [← hw1]
 clear hw1
 have hz1 : w.heap.size < w1.heap.size := by omega
 have hz1a : w.heap.size + 1 < w1.heap.size := by omega
 have hz1b : w.heap.size + 1 + 1 < w1.heap.size := by omega
 have hz1c : w.heap.size + 1 + 1 + 1 < w1.heap.size := by omega
 have hz1d : b < w1.heap.size := by omega
 go_cut [12] from 21 to 62 (fun s12 wx => ∃ (B12 : Nat) (v4 : Option Nat), s12 = .pointer (some ⟨B12, 0, none⟩) ∧ w1.heap.size ≤ B12 ∧ wx.cell? ⟨B12, 0, none⟩ = some (.map v4) ∧ Hid (VwR hs.length ⟨v4, withF a.f k h.l.length⟩ wx) ∧ Below w1.heap.size w1 wx)
 case first =>
   exact abD2
 case rest =>
  obtain ⟨B12, v4, rfl, hz12, p0, Hv4, hBc⟩ := hcut
  have hbc : ∀ x o, x < w1.heap.size → wc.cell? ⟨x, o, none⟩ = w1.cell? ⟨x, o, none⟩ := fun x o hx => hBc.cell (p := ⟨x, o, none⟩) hx
  have hfc : ∀ x o, x < w1.heap.size → wc.frozen? ⟨x, o, none⟩ = w1.frozen? ⟨x, o, none⟩ := fun x o hx => hBc.frozen (p := ⟨x, o, none⟩) hx
  have q0c := (hbc _ 0 hz1).trans q0
  have q1c := (hbc _ 1 hz1).trans q1
  have q2c := (hbc _ 0 hz1c).trans q2
  have x0c := (hbc _ 0 hz1a).trans x0
  have x1c := (hbc _ 1 hz1a).trans x1
  have x2c := (hbc _ 2 hz1a).trans x2
  have r0c := (hbc _ 0 hz1b).trans r0
  have r1c := (hbc _ 1 hz1b).trans r1
  have fNc : ∀ o, wc.frozen? ⟨w.heap.size, o, none⟩ = false := fun o => (hfc _ o hz1).trans (fN o)
  have f1c : ∀ o, wc.frozen? ⟨w.heap.size + 1 + 1, o, none⟩ = false := fun o => (hfc _ o hz1b).trans (f1 o)
  have hBw : Below w.heap.size w wc := hBa.trans (hBc.mono oM)
  have hsc := hBc.size
  have hzc : w.heap.size < wc.heap.size := by omega
  have hzca : w.heap.size + 1 < wc.heap.size := by omega
  have hzcb : w.heap.size + 1 + 1 < wc.heap.size := by omega
  have hzcc : w.heap.size + 1 + 1 + 1 < wc.heap.size := by omega
  have hzcd : b < wc.heap.size := by omega
  have hzce : B12 < wc.heap.size := cell_lt p0
  clear q0 q1 q2 x0 x1 x2 r0 r1 fN f1 hbc hfc HS c0 hBc hBa Hseen Hwith hz1 hz1a hz1b hz1c hz1d
  have e1 : wrap64 ((k : Int) + 1) = (k : Int) + 1 := by unfold wrap64; omega
  have e2 : (0 : Int) ≤ (k : Int) + 1 := by omega
  have e3 : (k : Int) + 1 ≤ (hs.length : Int) := by omega
  have e4 : ((k : Int) + 1).toNat = k + 1 := by omega
  have e5 : (k : Int) ≤ (pc : Int) := by have := Hpc.out; omega
  have e6 : (hs.length : Int) ≤ (pc : Int) := by have := Hpc.out; omega
  obtain ⟨A14, c14, hA14, hR14⟩ := tail_rd HrdP.out (k := k) oM Hpc.out
  have hRk := hide (Rd.take1 HrdP.out (k := k) oM)
  clear h0 h1
  go_wp2_with fail
  obtain ⟨w6, hw6⟩ : ∃ W : World, W = wc.alloc (.cells #[.map v4] 121) := ⟨_, rfl⟩
  have hs6 : wc.heap.size + 1 ≤ w6.heap.size := by rw [hw6]; simp
  have hB6 : Below wc.heap.size wc w6 := by rw [hw6]; exact ab0
  have hbc6 : ∀ x o, x < wc.heap.size → w6.cell? ⟨x, o, none⟩ = wc.cell? ⟨x, o, none⟩ := fun x o hx => hB6.cell (p := ⟨x, o, none⟩) hx
  have y0 : w6.cell? ⟨wc.heap.size, 0, none⟩ = some (.map v4) := by rw [hw6]; go_simp
  have Hv6 : Hid (VwR hs.length ⟨v4, withF a.f k h.l.length⟩ w6) := hide (by rw [hw6]; exact Hv4.out.alloc _ _)
  have p06 := (hbc6 _ 0 hzce).trans p0
  have q06 := (hbc6 _ 0 hzc).trans q0c
  have q16 := (hbc6 _ 1 hzc).trans q1c
  have q26 := (hbc6 _ 0 hzcc).trans q2c
  have r06 := (hbc6 _ 0 hzcb).trans r0c
  have r16 := (hbc6 _ 1 hzcb).trans r1c
  have fN6 : ∀ o, w6.frozen? ⟨w.heap.size, o, none⟩ = false := fun o => (hB6.frozen (p := ⟨_, o, none⟩) hzc).trans (fNc o)
  have f16 : ∀ o, w6.frozen? ⟨w.heap.size + 1 + 1, o, none⟩ = false := fun o => (hB6.frozen (p := ⟨_, o, none⟩) hzcb).trans (f1c o)
  have x06 := (hbc6 _ 0 hzca).trans x0c
  have x16 := (hbc6 _ 1 hzca).trans x1c
  have x26 := (hbc6 _ 2 hzca).trans x2c
  have hz6 : w.heap.size < w6.heap.size := by omega
  have hz6a : w.heap.size + 1 < w6.heap.size := by omega
  have hz6b : w.heap.size + 1 + 1 < w6.heap.size := by omega
  have hz6c : w.heap.size + 1 + 1 + 1 < w6.heap.size := by omega
  have hz6d : wc.heap.size < w6.heap.size := by omega
  have hz6e : B12 < w6.heap.size := by omega
  have hz6f : b < w6.heap.size := by omega
  have hB06 : Below w.heap.size w w6 := hBw.trans (hB6.mono oM)
  rw [← hw6]
  clear hw6 Hv4 hbc6 p0 q0c q1c q2c x0c x1c x2c r0c r1c fNc f1c
  refine wp_region_held_drew (S := (fun W => W.cell? ⟨w.heap.size, 0, none⟩ = some (.slice (some ⟨b, off, none⟩) hs.length pc) ∧ W.cell? ⟨w.heap.size + 1 + 1 + 1, 0, none⟩ = some (.slice h.A h.l.length h.cap) ∧ (W.cell? ⟨w.heap.size + 1, 0, none⟩ = some (.int .i64 x.v) ∧ W.cell? ⟨w.heap.size + 1, 1, none⟩ = some (.int .u32 x.r) ∧ W.cell? ⟨w.heap.size + 1, 2, none⟩ = some (.int .u32 x.f)) ∧ W.cell? ⟨wc.heap.size, 0, none⟩ = some (.map v4))) kR ab13 (fun hHeld => ?_)
  refine tq1 0 ?_
  refine tq1 1 ?_
  refine tq1 2 ?_
  refine tq1 3 ?_
  refine tq1 4 ?_
  refine tq1 5 ?_
  refine tq1 6 ?_
  refine tq1 7 ?_
  refine tq1 8 ?_
  refine tq1 9 ?_
  refine wE 10 fun K hK => ?_
  go_simp
  (go_at_call 168; refine (Hadd.out ⟨x, (t : Int) + 1, ⟨v4, withF a.f k h.l.length⟩⟩ _ (Hh.out.below ab0) (Hv6.out.below ab0)).mono ?_; rintro e w7 ⟨g7, c7, rfl, hg7, hh7, hb7'⟩; (try simp at hg7); have hb7 : Below _ _ w7 := (by first | with_reducible exact noDrew hb7' | exact hb7'); have hsw7 := (hb7).size; (try simp at hsw7); have Hh7 := hide hh7; clear hh7; obtain ⟨hcc7, hff7⟩ := bcell hb7; have hz7 : w.heap.size < w7.heap.size := oM; have hz7a : w.heap.size + 1 < w7.heap.size := oM; have hz7b : w.heap.size + 1 + 1 < w7.heap.size := oM; have hz7c : w.heap.size + 1 + 1 + 1 < w7.heap.size := oM; have hz7d : wc.heap.size < w7.heap.size := oM; have hz7e : B12 < w7.heap.size := oM; have hz7f : b < w7.heap.size := oM)
  go_wp2_with fail
  refine oK hK ab13 fun hHeld => ?_
  clear hK K
  refine wE 11 fun K hK => ?_
  go_simp
  go_wp2_with fail
  refine oK hK ab13 fun hHeld => ?_
  clear hK K
  refine wE 12 fun K hK => ?_
  refine wp_append_one (.tmp 45) (.tmp 52) 26 rfl 115 i0 _ 1 24 Tryz.underlying26 hi.out iz0.out iz1.out iz2.out rfl w.heap.size (some ⟨b, off, none⟩) k ((hs.take k).map histv) (by simp [Act.eval, Act.put]) (hRk.out.below ab0) (fun e => by cases e) ⟨w7.heap.size, 0, none⟩ 1 [histv ⟨some ⟨g7, 0, none⟩, c7, h.l ++ [⟨x, (t : Int) + 1, ⟨v4, withF a.f k h.l.length⟩⟩]⟩] (by simp [Act.eval, Act.put]) rfl ?_ (by unfold maxLen; omega) oM ?_; (focus (intro j u hu; refine alloc_cell _ _ _ sM ?_; simpa [histv] using hu)); intro cp8 w8 how8 hb8' hz8; have hb8 : Below _ _ w8 := (by first | with_reducible exact noDrew hb8' | exact hb8'); have hsw8 := (hb8).size; (try simp at hsw8); obtain ⟨hcc8, hff8⟩ := bcell hb8; have hz8 : w.heap.size < w8.heap.size := oM; have hz8a : w.heap.size + 1 < w8.heap.size := oM; have hz8b : w.heap.size + 1 + 1 < w8.heap.size := oM; have hz8c : w.heap.size + 1 + 1 + 1 < w8.heap.size := oM; have hz8d : wc.heap.size < w8.heap.size := oM; have hz8e : B12 < w8.heap.size := oM; have hz8f : b < w8.heap.size := oM
  (try go_simp)
  go_wp2_with fail
  refine oK hK ab13 fun hHeld => ?_
  clear hK K
  refine tq1 13 ?_
  refine wD ?_
  have Hp0 := Hpc.out
  have hL6 := HL6.out
  have hnb : (k + 1 + (hs.length - (k + 1))) * 24 ≤ 140737488355328 := by omega
  have hnm : k + 1 + (hs.length - (k + 1)) ≤ maxLen := by unfold maxLen; omega
  have Hown8 := hide (by simpa using how8.out : w8.ownsRow (w7.heap.size + 1) 115 1 (.slice (some ⟨w7.heap.size + 1, 0, none⟩) (k + 1) cp8) (k + 1) ((hs.take k).map histv ++ [histv ⟨some ⟨g7, 0, none⟩, c7, h.l ++ [⟨x, (t : Int) + 1, ⟨v4, withF a.f k h.l.length⟩⟩]⟩]))
  have hB7 : Below w.heap.size w w7 := ab0
  have hB8 : Below w.heap.size w w8 := ab0
  have HR14 := hide (hR14.out.below hB8)
  have hone : ∀ u ∈ (hs.drop (k + 1)).map histv, u.oneCell' = true := by
    intro u hu
    obtain ⟨y, -, rfl⟩ := List.mem_map.1 hu
    rfl
  have hlen : k + 1 + (hs.length - (k + 1)) = hs.length := by omega
  go_wp2_with (first
    | (at_builtin; refine wpList_append_rd rfl _ _ 26 rfl (w7.heap.size + 1) 115 i0 _ 1 24 Tryz.underlying26 hi.out iz0.out iz1.out iz2.out rfl oM (.slice (some ⟨w7.heap.size + 1, 0, none⟩) (k + 1) cp8) (k + 1) ((hs.take k).map histv ++ [histv ⟨some ⟨g7, 0, none⟩, c7, h.l ++ [⟨x, (t : Int) + 1, ⟨v4, withF a.f k h.l.length⟩⟩]⟩]) rfl Hown8.out A14 (hs.length - (k + 1)) c14 ((hs.drop (k + 1)).map histv) rfl w.heap.size HR14.out hone hnm hnb oM (w7.heap.size + 1) w8 (Below.refl _ _) (Nat.le_refl _) ?_; intro v9 w9 how9 hb9 hz9; rw [hlen] at how9; obtain ⟨g9, c9, rfl, hc9, hg9, hr9⟩ := own_some how9 oM; clear how9; have Hr9 := hide hr9; clear hr9; have hB89 : Below w7.heap.size w7 w9 := ((Below.alloc (Below.refl w7.heap.size w7) (Nat.le_refl _) _).trans (hb8.mono sM)).trans (hb9.mono oM); have hB69 : Below w6.heap.size w6 w9 := hb7.trans (hB89.mono hsw7); have hc69 : ∀ x o, x < w6.heap.size → w9.cell? ⟨x, o, none⟩ = w6.cell? ⟨x, o, none⟩ := (fun x o hx => hB69.cell (p := ⟨x, o, none⟩) hx); have q09 := (hc69 _ 0 hz6).trans q06; have q19 := (hc69 _ 1 hz6).trans q16; have p09 := (hc69 _ 0 hz6e).trans p06; have r09 := (hc69 _ 0 hz6b).trans r06; have r19 := (hc69 _ 1 hz6b).trans r16; have fN9 : ∀ o, w9.frozen? ⟨w.heap.size, o, none⟩ = false := (fun o => (hB69.frozen (p := ⟨_, o, none⟩) hz6).trans (fN6 o)); have f19 : ∀ o, w9.frozen? ⟨w.heap.size + 1 + 1, o, none⟩ = false := (fun o => (hB69.frozen (p := ⟨_, o, none⟩) hz6b).trans (f16 o)); have hB09 : Below w.heap.size w w9 := hB06.trans (hB69.mono oM); have n12 : ¬ B12 = w.heap.size := oM; have n13 : ¬ w.heap.size = B12 := oM; clear hc69 hcc7 hff7 hcc8 hff8 q06 q16 p06 r06 r16 fN6 f16; have ng9 : w.heap.size ≠ g9 := oM; have ng7 : w.heap.size ≠ g7 := oM; have hB10 : Below w.heap.size w (w9.setCell ⟨w.heap.size, 0, none⟩ (.slice (some ⟨g9, 0, none⟩) hs.length c9)) := hB09.setCell (p := ⟨w.heap.size, 0, none⟩) (Nat.le_refl _) _; have hrd10 : Rd (w9.setCell ⟨w.heap.size, 0, none⟩ (.slice (some ⟨g9, 0, none⟩) hs.length c9)) (w9.setCell ⟨w.heap.size, 0, none⟩ (.slice (some ⟨g9, 0, none⟩) hs.length c9)).heap.size 1 (some ⟨g9, 0, none⟩) hs.length ((hs.take k).map histv ++ [histv ⟨some ⟨g7, 0, none⟩, c7, h.l ++ [⟨x, (t : Int) + 1, ⟨v4, withF a.f k h.l.length⟩⟩]⟩] ++ (hs.drop (k + 1)).map histv) := Rd.more (Rd.set_far Hr9.out ng9 _) sM; have hh10 : HistV.R hs.length (w9.setCell ⟨w.heap.size, 0, none⟩ (.slice (some ⟨g9, 0, none⟩) hs.length c9)) ⟨some ⟨g7, 0, none⟩, c7, h.l ++ [⟨x, (t : Int) + 1, ⟨v4, withF a.f k h.l.length⟩⟩]⟩ := histR_set (Hh7.out.below hB89) rfl ng7 (HasC.of q09) _; have HM : Hid (MemV.R (w9.setCell ⟨w.heap.size, 0, none⟩ (.slice (some ⟨g9, 0, none⟩) hs.length c9)) ⟨some ⟨g9, 0, none⟩, c9, hs.set k ⟨some ⟨g7, 0, none⟩, c7, h.l ++ [⟨x, (t : Int) + 1, ⟨v4, withF a.f k h.l.length⟩⟩]⟩, vA, vc, vs⟩) := hide (mem_put (m := ⟨some ⟨b, off, none⟩, pc, hs, vA, vc, vs⟩) (k := k) (n := hs.length) (h' := ⟨some ⟨g7, 0, none⟩, c7, h.l ++ [⟨x, (t : Int) + 1, ⟨v4, withF a.f k h.l.length⟩⟩]⟩) HR.out hB10 (Eq.refl _) hkn hrd10 (Eq.refl _) hc9 hh10); have Hrd10 := hide hrd10; have Hh10 := hide hh10; clear hrd10 hh10; have HV10 : Hid (VwR hs.length ⟨v4, withF a.f k h.l.length⟩ (w9.setCell ⟨w.heap.size, 0, none⟩ (.slice (some ⟨g9, 0, none⟩) hs.length c9))) := hide ((Hv6.out.below hB69).set (HasC.of q09) _))
    | (go_at_call 169; refine (Hmw.out _ _ _ ⟨v4, _⟩ _ HM.out sM HV10.out).mono ?_; rintro e wE ⟨G, rfl, hG, hmE, hbE⟩; (try simp at hG); have HrdE := hide ((Hrd10.out.below hbE).more hbE.size); have HhE := hide (Hh10.out.below hbE); have HvE : Hid (NewV hs.length G vs.length (vs.set t ⟨v4, withF a.f k h.l.length⟩) ⟨v4, withF a.f k h.l.length⟩ wE) := hide (by have q := NewV.of (m := ⟨some ⟨g9, 0, none⟩, c9, hs.set k ⟨some ⟨g7, 0, none⟩, c7, h.l ++ [⟨x, (t : Int) + 1, ⟨v4, withF a.f k h.l.length⟩⟩]⟩, vA, vc, vs⟩) rfl htn hmE; simp only [List.length_set] at q; exact q); clear hmE; have hsE := hbE.size; (try simp at hsE); have hzE : w.heap.size + 1 + 1 < w9.heap.size := oM; have hBE : Below w.heap.size w wE := hB10.trans (hbE.mono (by simp; omega)); obtain ⟨hccE, hffE⟩ := bcell hbE))
  have sE0 : wE.cell? ⟨w.heap.size + 1 + 1, 0, none⟩ = some (.slice none 0 0) := by go_simp
  have sE1 : wE.cell? ⟨w.heap.size + 1 + 1, 1, none⟩ = some (.slice none 0 0) := by go_simp
  have ng9' : w.heap.size + 1 + 1 ≠ g9 := by omega
  have ng7' : w.heap.size + 1 + 1 ≠ g7 := by omega
  have ngG : w.heap.size + 1 + 1 ≠ G := by omega
  have hGw : w.heap.size ≤ G := by omega
  have hgw9 : w.heap.size ≤ g9 := by omega
  have hgw7 : w.heap.size ≤ g7 := by omega
  have hBZ : Below w.heap.size w ((wE.setCell ⟨w.heap.size + 1 + 1, 0, none⟩ (.slice (some ⟨g9, 0, none⟩) hs.length c9)).setCell ⟨w.heap.size + 1 + 1, 1, none⟩ (.slice (some ⟨G, 0, none⟩) vs.length vs.length)) := Below.setCell (Below.setCell hBE ab4 _) ab4 _
  have hrdZ : Rd ((wE.setCell ⟨w.heap.size + 1 + 1, 0, none⟩ (.slice (some ⟨g9, 0, none⟩) hs.length c9)).setCell ⟨w.heap.size + 1 + 1, 1, none⟩ (.slice (some ⟨G, 0, none⟩) vs.length vs.length)) ((wE.setCell ⟨w.heap.size + 1 + 1, 0, none⟩ (.slice (some ⟨g9, 0, none⟩) hs.length c9)).setCell ⟨w.heap.size + 1 + 1, 1, none⟩ (.slice (some ⟨G, 0, none⟩) vs.length vs.length)).heap.size 1 (some ⟨g9, 0, none⟩) hs.length ((hs.take k).map histv ++ [histv ⟨some ⟨g7, 0, none⟩, c7, h.l ++ [⟨x, (t : Int) + 1, ⟨v4, withF a.f k h.l.length⟩⟩]⟩] ++ (hs.drop (k + 1)).map histv) := Rd.more (Rd.set_far (Rd.set_far HrdE.out ng9' _) ng9' _) sM
  have hhZ : HistV.R hs.length ((wE.setCell ⟨w.heap.size + 1 + 1, 0, none⟩ (.slice (some ⟨g9, 0, none⟩) hs.length c9)).setCell ⟨w.heap.size + 1 + 1, 1, none⟩ (.slice (some ⟨G, 0, none⟩) vs.length vs.length)) ⟨some ⟨g7, 0, none⟩, c7, h.l ++ [⟨x, (t : Int) + 1, ⟨v4, withF a.f k h.l.length⟩⟩]⟩ := histR_set (histR_set HhE.out rfl ng7' (HasC.of sE0) _) rfl ng7' (HasC.set (HasC.of sE1) _) _
  have hvZ := NewV.set (NewV.set HvE.out ngG (HasC.of sE0) (.slice (some ⟨g9, 0, none⟩) hs.length c9)) ngG (HasC.set (HasC.of sE1) _) (.slice (some ⟨G, 0, none⟩) vs.length vs.length)
  have hMZ : MemV.R ((wE.setCell ⟨w.heap.size + 1 + 1, 0, none⟩ (.slice (some ⟨g9, 0, none⟩) hs.length c9)).setCell ⟨w.heap.size + 1 + 1, 1, none⟩ (.slice (some ⟨G, 0, none⟩) vs.length vs.length)) ⟨some ⟨g9, 0, none⟩, c9, hs.set k ⟨some ⟨g7, 0, none⟩, c7, h.l ++ [⟨x, (t : Int) + 1, ⟨v4, withF a.f k h.l.length⟩⟩]⟩, vA, vc, vs⟩ := mem_put (m := ⟨some ⟨b, off, none⟩, pc, hs, vA, vc, vs⟩) (k := k) (n := hs.length) (h' := ⟨some ⟨g7, 0, none⟩, c7, h.l ++ [⟨x, (t : Int) + 1, ⟨v4, withF a.f k h.l.length⟩⟩]⟩) HR.out hBZ (Eq.refl _) hkn hrdZ (Eq.refl _) hc9 hhZ
  have HMZ := hide (MemV.with_R (g := G) (t := t) (n := vs.length) (a := ⟨v4, withF a.f k h.l.length⟩) hMZ (Below.refl _ _) (Eq.refl _) hvZ.rd (by show VwV.R (hs.set k ⟨some ⟨g7, 0, none⟩, c7, h.l ++ [⟨x, (t : Int) + 1, ⟨v4, withF a.f k h.l.length⟩⟩]⟩).length _ _; rw [List.length_set]; exact hvZ.r))
  have HBZ := hide hBZ
  clear hrdZ hhZ hvZ hMZ hBZ
  refine bodyPost_ret (v := .agg #[.slice (some ⟨g9, 0, none⟩) hs.length c9, .slice (some ⟨G, 0, none⟩) vs.length vs.length]) (by simp [results, Tryz.results154, go_sem]; (try go_simp)) rfl ⟨g9, c9, g7, c7, G, v4, rfl, hgw9, hgw7, hGw, ?_, ?_⟩
  · with_reducible exact HMZ.out
  · with_reducible exact HBZ.out
def OffC (C n : Nat) (A : Option Addr) : Prop := 0 < n → ∀ b o, A = some ⟨b, o, none⟩ → b ≠ C
theorem OffC.new {w : World} {size C n : Nat} {A : Option Addr} {xs : List Value} (h : Rd w w.heap.size size A n xs) (hC : w.heap.size ≤ C) : OffC C n A := by
 intro hn b o e
 obtain ⟨b', o', e', hb, _⟩ := h.2 hn
 rw [e] at e'
 injection e' with e'
 injection e' with e1 _
 omega
theorem OffC.at {C n g : Nat} (h : g ≠ C) : OffC C n (some ⟨g, 0, none⟩) := by
 intro _ b o e
 injection e with e
 injection e with e1 _
 omega
theorem Rd.set_off {w : World} {B size n C o : Nat} {A : Option Addr} {xs : List Value} (h : Rd w B size A n xs) (hoff : OffC C n A) (x : Value) : Rd (w.setCell ⟨C, o, none⟩ x) B size A n xs := by
 refine ⟨h.1, fun hn => ?_⟩
 obtain ⟨b, off, e, hb, hc⟩ := h.2 hn
 refine ⟨b, off, e, hb, fun j u hu => ?_⟩
 have hne := hoff hn b off e
 rw [World.cell?_setCell_other _ _ _ _ (by intro e2; injection e2 with e2 _; exact hne (by first | exact e2 | exact e2.symm))]
 exact hc j u hu
def MemV.off (C : Nat) (m : MemV) : Prop := OffC C m.hs.length m.pA ∧ OffC C m.vs.length m.vA ∧ ∀ h ∈ m.hs, OffC C h.l.length h.A
theorem MemV.off_new {w : World} {m : MemV} {C : Nat} (h : m.R w) (hC : w.heap.size ≤ C) : m.off C :=
 ⟨OffC.new h.1.2.2.1 hC, OffC.new h.2.2.2.1 hC, fun x hx => OffC.new (h.1.2.2.2 x hx).2.2.1 hC⟩
theorem HistV.R.set_off {L : Nat} {w : World} {h : HistV} {C o : Nat} (hr : h.R L w) (hoff : OffC C h.l.length h.A) (hc : HasC ⟨C, o, none⟩ w) (x : Value) : h.R L (w.setCell ⟨C, o, none⟩ x) := by
 obtain ⟨u, hc⟩ := hc
 obtain ⟨h1, h2, h3, h4⟩ := hr
 refine ⟨h1, h2, ?_, fun m hm => (h4 m hm).setCell hc x⟩
 rw [show (w.setCell ⟨C, o, none⟩ x).heap.size = w.heap.size by simp]
 exact Rd.set_off h3 hoff x
theorem MemV.R.set {w : World} {m : MemV} {C o : Nat} (h : m.R w) (hoff : m.off C) (hc : HasC ⟨C, o, none⟩ w) (x : Value) : m.R (w.setCell ⟨C, o, none⟩ x) := by
 have es : (w.setCell ⟨C, o, none⟩ x).heap.size = w.heap.size := by simp
 refine ⟨⟨h.1.1, h.1.2.1, ?_, fun y hy => (h.1.2.2.2 y hy).set_off (hoff.2.2 y hy) hc x⟩, ⟨h.2.1, h.2.2.1, ?_, fun y hy => ?_⟩⟩
 ·rw [es]; exact Rd.set_off h.1.2.2.1 hoff.1 x
 ·rw [es]; exact Rd.set_off h.2.2.2.1 hoff.2.1 x
 ·obtain ⟨u, hc⟩ := hc
  exact (h.2.2.2.2 y hy).setCell hc x
theorem MemV.R.drew {w : World} {m : MemV} (h : m.R w) : m.R w.drew := h.below (Below.drew (Below.refl _ _))
theorem MemV.off_with {m : MemV} {C g c t : Nat} {a : VwV} (h : m.off C) (hg : g ≠ C) : (m.with (some ⟨g, 0, none⟩) c t a).off C := ⟨h.1, OffC.at hg, h.2.2⟩
theorem MemV.off_put {m : MemV} {C g c k g' c' : Nat} {l : List MsgV} (h : m.off C) (hg : g ≠ C) (hg' : g' ≠ C) : MemV.off C ⟨some ⟨g, 0, none⟩, c, m.hs.set k ⟨some ⟨g', 0, none⟩, c', l⟩, m.vA, m.vc, m.vs⟩ := by
 refine ⟨OffC.at hg, h.2.1, fun x hx => ?_⟩
 rcases List.mem_or_eq_of_mem_set hx with hx | rfl
 ·exact h.2.2 x hx
 ·exact OffC.at hg'
theorem MemV.R.five {w : World} {m : MemV} {c d : Nat} (h : m.R w) (h1 : m.off c) (h2 : m.off d) {u0 u1 u2 u3 u4 : Value} (c0 : w.cell? ⟨c, 0, none⟩ = some u0) (c1 : w.cell? ⟨c, 1, none⟩ = some u1) (c2 : w.cell? ⟨d, 0, none⟩ = some u2) (c3 : w.cell? ⟨d, 1, none⟩ = some u3) (c4 : w.cell? ⟨d, 2, none⟩ = some u4) (x0 x1 x2 x3 x4 : Value) : m.R (((((w.setCell ⟨c, 0, none⟩ x0).setCell ⟨c, 1, none⟩ x1).setCell ⟨d, 0, none⟩ x2).setCell ⟨d, 1, none⟩ x3).setCell ⟨d, 2, none⟩ x4) :=
 MemV.R.set (MemV.R.set (MemV.R.set (MemV.R.set (MemV.R.set h h1 (.of c0) _) h1 (.set (.of c1) _) _) h2 (.set (.set (.of c2) _) _) _) h2 (.set (.set (.set (.of c3) _) _) _) _) h2 (.set (.set (.set (.set (.of c4) _) _) _) _) _
def msg0 (x : W3) : MsgV := ⟨x, 0, ⟨none, fun _ => 0⟩⟩
theorem hist_new2 (x : W3) (w : World) : Calls Tryz.prog 88 #[(w3V x)] w fun e w' => ∃ g cap, e = .returned (.agg #[.slice (some ⟨g, 0, none⟩) 1 cap]) ∧ 1 ≤ cap ∧ w.heap.size ≤ g ∧ g < w'.heap.size ∧ Rd w' w'.heap.size 5 (some ⟨g, 0, none⟩) 1 (msgc (msg0 x)) ∧ Below w.heap.size w w' := by
 go_enter Tryz.func88, Tryz.ntmps88
 go_wp2_with fail
 refine bodyPost_ret (v := .agg #[.slice (some ⟨w.heap.size + 1 + 1, 0, none⟩) 1 1]) (by simp [results, Tryz.results88, go_sem]) rfl ⟨_, _, rfl, Nat.le_refl _, by omega, by simp, ⟨by simp [msgc], fun _ => ⟨_, 0, rfl, by simp, fun j u hu => ?_⟩⟩, ab0⟩
 simp only [msgc, msg0] at hu
 match j, hu with
 | 0, hu => injection hu with hu; subst hu; go_simp
 | 1, hu => injection hu with hu; subst hu; go_simp
 | 2, hu => injection hu with hu; subst hu; go_simp
 | 3, hu => injection hu with hu; subst hu; go_simp
 | 4, hu => injection hu with hu; subst hu; go_simp
def HNew (base : Nat) (v : Value) (w : World) (x : W3) (h : HistV) : Prop := ∃ b cap, h = ⟨some ⟨b, 0, none⟩, cap, [msg0 x]⟩ ∧ 1 ≤ cap ∧ base ≤ b ∧ b < w.heap.size ∧ v.ownBlock ≠ some b ∧ Rd w w.heap.size 5 (some ⟨b, 0, none⟩) 1 (msgc (msg0 x))
section
variable {base : Nat} {v v' : Value} {w w' : World} {x : W3} {h : HistV}
theorem HNew.R (hh : HNew base v w x h) (L : Nat) : h.R L w := by
 obtain ⟨b, cap, rfl, hc, _, _, _, hr⟩ := hh
 refine ⟨hc, (fun e => by cases e), ?_, fun m hm => ?_⟩
 ·show Rd w w.heap.size 5 (some ⟨b, 0, none⟩) 1 ([msg0 x].flatMap msgc)
  rw [List.flatMap_cons, List.flatMap_nil, List.append_nil]
  exact hr
 ·obtain rfl := List.mem_singleton.1 hm
  exact VwV.R.nil L _
theorem HNew.l (hh : HNew base v w x h) : h.l = [msg0 x] := by
 obtain ⟨b, cap, rfl, _⟩ := hh
 rfl
theorem HNew.off (hh : HNew base v w x h) {C : Nat} (hC : C < base) : OffC C h.l.length h.A := by
 obtain ⟨b, cap, rfl, _, hb, _⟩ := hh
 exact OffC.at oM
theorem HNew.below (hh : HNew base v w x h) (hb : Below w.heap.size w w') : HNew base v w' x h := by
 obtain ⟨b, cap, e, hc, h1, h2, h3, hr⟩ := hh
 exact ⟨b, cap, e, hc, h1, Nat.lt_of_lt_of_le h2 hb.size, h3, (hr.below hb).more hb.size⟩
theorem HNew.app (hh : HNew base v w x h) (hs : w.heap.size ≤ w'.heap.size) (hst : ∀ b, b < w.heap.size → v.ownBlock ≠ some b → v'.ownBlock ≠ some b ∧ w'.heap[b]? = w.heap[b]?) : HNew base v' w' x h := by
 obtain ⟨b, cap, e, hc, h1, h2, h3, hr⟩ := hh
 refine ⟨b, cap, e, hc, h1, Nat.lt_of_lt_of_le h2 hs, (hst b h2 h3).1, (Rd.stay hr (fun _ b' o e2 hb' => ?_)).more hs⟩
 injection e2 with e2
 injection e2 with e2 _
 subst e2
 exact (hst b h2 h3).2
theorem HNew.set {C o : Nat} (hh : HNew base v w x h) (hC : C < base) (u : Value) : HNew base v (w.setCell ⟨C, o, none⟩ u) x h := by
 obtain ⟨b, cap, e, hc, h1, h2, h3, hr⟩ := hh
 refine ⟨b, cap, e, hc, h1, by simpa using h2, h3, ?_⟩
 rw [show (w.setCell ⟨C, o, none⟩ u).heap.size = w.heap.size by simp]
 exact Rd.set_off hr (OffC.at oM) u
end
def HRow (base : Nat) (v : Value) (w : World) (xs : List W3) (hs : List HistV) : Prop := hs.length = xs.length ∧ ∀ (j : Nat) (x : W3) (h : HistV), xs[j]? = some x → hs[j]? = some h → HNew base v w x h
theorem HRow.map {base : Nat} {v v' : Value} {w w' : World} {xs : List W3} {hs : List HistV} (h : HRow base v w xs hs) (f : ∀ x y, HNew base v w x y → HNew base v' w' x y) : HRow base v' w' xs hs := ⟨h.1, fun j x y hx hy => f _ _ (h.2 j x y hx hy)⟩
theorem HRow.snoc {base : Nat} {v : Value} {w : World} {xs : List W3} {hs : List HistV} {x : W3} {y : HistV} (h : HRow base v w xs hs) (hn : HNew base v w x y) : HRow base v w (xs ++ [x]) (hs ++ [y]) := by
 refine ⟨by simp [h.1], fun j a b ha hb => ?_⟩
 by_cases hj : j < xs.length
 ·rw [List.getElem?_append_left hj] at ha
  rw [List.getElem?_append_left (by rw [h.1]; exact hj)] at hb
  exact h.2 j a b ha hb
 ·rw [List.getElem?_append_right oM] at ha
  rw [List.getElem?_append_right (by rw [h.1]; omega), h.1] at hb
  by_cases h0 : j - xs.length = 0
  ·rw [h0] at ha hb
   simp at ha hb
   subst ha hb
   exact hn
  ·rw [List.getElem?_eq_none (by simp; omega)] at ha
   cases ha
end Go.Proofs.YtnnmenmifphadaaGreatDoor
namespace Go.Proofs.YtnnmenmifphadaaGreatDoor
open Go.RowKit
theorem info_cW : (Tryz.prog.info? 66).map (fun i => (i.zero, i.size, i.bytes)) = some (some (.agg #[.int .i64 0, .int .u32 0, .int .u32 0]), 3, 16) := by kernel_rfl
theorem clone_W (A : Option Addr) (n cap : Nat) (xs : List Value) (w : World) (hr : Rd w w.heap.size 3 A n xs) (hA : A = none → n = 0) (h1 : ∀ u ∈ xs, u.oneCell' = true) (hn : n ≤ 1000000) :
  Calls Tryz.prog 89 #[.slice A n cap] w fun e w' => ∃ A' cap', e = .returned (.slice A' n cap') ∧ w'.ownsRow w.heap.size 66 3 (.slice A' n cap') n xs ∧ Below w.heap.size w w' := by
 obtain ⟨i0, hi0, jz0, jz1, jz2⟩ := info_parts info_cW
 have hi := hide hi0
 have iz0 := hide jz0
 have iz1 := hide jz1
 have iz2 := hide jz2
 clear hi0 jz0 jz1 jz2
 have Hr := hide hr
 have H1 := hide h1
 cases A with
 | none =>
  obtain rfl : n = 0 := hA rfl
  have hx : xs = [] := List.eq_nil_of_length_eq_zero (by simpa using hr.1)
  subst hx
  have heq : ∀ W : World, (binOp .eql 22 (.slice none 0 cap) (.slice none 0 0)).run Tryz.prog W = .ok (.bool true) W := fun W => by kernel_rfl
  clear hr hA
  go_enter Tryz.func89, Tryz.ntmps89
  go_wp2_with fail
  go_ret
  exact ⟨none, 0, rfl, World.ownsRow_nil _ _ _ _, ab0⟩
 | some a =>
  have heq : ∀ W : World, (binOp .eql 22 (.slice (some a) n cap) (.slice none 0 0)).run Tryz.prog W = .ok (.bool false) W := fun W => by kernel_rfl
  clear hr hA h1
  go_enter Tryz.func89, Tryz.ntmps89
  go_wp2_with (first
   | (at_builtin; refine wpList_append_rd rfl _ _ 22 rfl w.heap.size 66 i0 _ 3 16 Tryz.underlying22 hi.out iz0.out iz1.out iz2.out rfl dM (.slice (some ⟨w.heap.size, 0, none⟩) 0 0) 0 [] rfl (World.ownsRow_made w #[] 0 (Nat.le_refl _) (Nat.zero_le _) rfl) (some a) n cap xs rfl w.heap.size (Hr.out.below ab0) H1.out (by unfold maxLen; omega) oM sM w.heap.size w ab0 (Nat.le_refl _) ?_; intro v' w6 hown6 hb6 hsz6))
  rw [Nat.zero_add, List.nil_append] at hown6
  obtain ⟨A', cap', rfl, hcp, hbl⟩ := own_slice hown6
  go_wp2_with fail
  go_ret
  exact ⟨A', cap', rfl, hown6, ab0⟩
theorem info_cI : (Tryz.prog.info? 3).map (fun i => (i.zero, i.size, i.bytes)) = some (some (.int .i64 0), 1, 8) := by kernel_rfl
theorem clone_I (A : Option Addr) (n cap : Nat) (xs : List Value) (w : World) (hr : Rd w w.heap.size 1 A n xs) (hA : A = none → n = 0) (h1 : ∀ u ∈ xs, u.oneCell' = true) (hn : n ≤ 1000000) :
  Calls Tryz.prog 63 #[.slice A n cap] w fun e w' => ∃ A' cap', e = .returned (.slice A' n cap') ∧ w'.ownsRow w.heap.size 3 1 (.slice A' n cap') n xs ∧ Below w.heap.size w w' := by
 obtain ⟨i0, hi0, jz0, jz1, jz2⟩ := info_parts info_cI
 have hi := hide hi0
 have iz0 := hide jz0
 have iz1 := hide jz1
 have iz2 := hide jz2
 clear hi0 jz0 jz1 jz2
 have Hr := hide hr
 have H1 := hide h1
 cases A with
 | none =>
  obtain rfl : n = 0 := hA rfl
  have hx : xs = [] := List.eq_nil_of_length_eq_zero (by simpa using hr.1)
  subst hx
  have heq : ∀ W : World, (binOp .eql 34 (.slice none 0 cap) (.slice none 0 0)).run Tryz.prog W = .ok (.bool true) W := fun W => by kernel_rfl
  clear hr hA
  go_enter Tryz.func63, Tryz.ntmps63
  go_wp2_with fail
  go_ret
  exact ⟨none, 0, rfl, World.ownsRow_nil _ _ _ _, ab0⟩
 | some a =>
  have heq : ∀ W : World, (binOp .eql 34 (.slice (some a) n cap) (.slice none 0 0)).run Tryz.prog W = .ok (.bool false) W := fun W => by kernel_rfl
  clear hr hA h1
  go_enter Tryz.func63, Tryz.ntmps63
  go_wp2_with (first
   | (at_builtin; refine wpList_append_rd rfl _ _ 34 rfl w.heap.size 3 i0 _ 1 8 Tryz.underlying34 hi.out iz0.out iz1.out iz2.out rfl dM (.slice (some ⟨w.heap.size, 0, none⟩) 0 0) 0 [] rfl (World.ownsRow_made w #[] 0 (Nat.le_refl _) (Nat.zero_le _) rfl) (some a) n cap xs rfl w.heap.size (Hr.out.below ab0) H1.out (by unfold maxLen; omega) oM sM w.heap.size w ab0 (Nat.le_refl _) ?_; intro v' w6 hown6 hb6 hsz6))
  rw [Nat.zero_add, List.nil_append] at hown6
  obtain ⟨A', cap', rfl, hcp, hbl⟩ := own_slice hown6
  go_wp2_with fail
  go_ret
  exact ⟨A', cap', rfl, hown6, ab0⟩
theorem info_cL : (Tryz.prog.info? 217).map (fun i => (i.zero, i.size, i.bytes)) = some (some (.agg #[.slice none 0 0, .int .i64 0]), 2, 32) := by kernel_rfl
theorem clone_L (A : Option Addr) (n cap : Nat) (xs : List Value) (w : World) (hr : Rd w w.heap.size 2 A n xs) (hA : A = none → n = 0) (h1 : ∀ u ∈ xs, u.oneCell' = true) (hn : n ≤ 1000000) :
  Calls Tryz.prog 124 #[.slice A n cap] w fun e w' => ∃ A' cap', e = .returned (.slice A' n cap') ∧ w'.ownsRow w.heap.size 217 2 (.slice A' n cap') n xs ∧ Below w.heap.size w w' := by
 obtain ⟨i0, hi0, jz0, jz1, jz2⟩ := info_parts info_cL
 have hi := hide hi0
 have iz0 := hide jz0
 have iz1 := hide jz1
 have iz2 := hide jz2
 clear hi0 jz0 jz1 jz2
 have Hr := hide hr
 have H1 := hide h1
 cases A with
 | none =>
  obtain rfl : n = 0 := hA rfl
  have hx : xs = [] := List.eq_nil_of_length_eq_zero (by simpa using hr.1)
  subst hx
  have heq : ∀ W : World, (binOp .eql 30 (.slice none 0 cap) (.slice none 0 0)).run Tryz.prog W = .ok (.bool true) W := fun W => by kernel_rfl
  clear hr hA
  go_enter Tryz.func124, Tryz.ntmps124
  go_wp2_with fail
  go_ret
  exact ⟨none, 0, rfl, World.ownsRow_nil _ _ _ _, ab0⟩
 | some a =>
  have heq : ∀ W : World, (binOp .eql 30 (.slice (some a) n cap) (.slice none 0 0)).run Tryz.prog W = .ok (.bool false) W := fun W => by kernel_rfl
  clear hr hA h1
  go_enter Tryz.func124, Tryz.ntmps124
  go_wp2_with (first
   | (at_builtin; refine wpList_append_rd rfl _ _ 30 rfl w.heap.size 217 i0 _ 2 32 Tryz.underlying30 hi.out iz0.out iz1.out iz2.out rfl dM (.slice (some ⟨w.heap.size, 0, none⟩) 0 0) 0 [] rfl (World.ownsRow_made w #[] 0 (Nat.le_refl _) (Nat.zero_le _) rfl) (some a) n cap xs rfl w.heap.size (Hr.out.below ab0) H1.out (by unfold maxLen; omega) oM sM w.heap.size w ab0 (Nat.le_refl _) ?_; intro v' w6 hown6 hb6 hsz6))
  rw [Nat.zero_add, List.nil_append] at hown6
  obtain ⟨A', cap', rfl, hcp, hbl⟩ := own_slice hown6
  go_wp2_with fail
  go_ret
  exact ⟨A', cap', rfl, hown6, ab0⟩
end Go.Proofs.YtnnmenmifphadaaGreatDoor
namespace Go.Proofs.YtnnmenmifphadaaGreatDoor
open Go.RowKit Go.Maps
structure LogV where
 A : Option Addr
 cap : Nat
 l : List (Int × W3)
 kept : Int
def storec (p : Int × W3) : List Value := [.int .i64 p.1, .int .i64 p.2.v, .int .u32 p.2.r, .int .u32 p.2.f]
def logc (g : LogV) : List Value := [.slice g.A g.l.length g.cap, .int .i64 g.kept]
theorem logc_len (g : LogV) : (logc g).length = 2 := rfl
def LogV.R (w : World) (g : LogV) : Prop := g.l.length ≤ g.cap ∧ (g.A = none → g.l.length = 0) ∧ Rd w w.heap.size 4 g.A g.l.length (g.l.flatMap storec)
structure LinesV where
 fA : Option Addr
 fc : Nat
 first : List W3
 lA : Option Addr
 lc : Nat
 logs : List LogV
 asks : Option Nat
def LinesV.R (w : World) (m : LinesV) : Prop := (m.first.length ≤ m.fc ∧ (m.fA = none → m.first.length = 0) ∧ Rd w w.heap.size 3 m.fA m.first.length (m.first.flatMap w3c)) ∧ (m.logs.length ≤ m.lc ∧ (m.lA = none → m.logs.length = 0) ∧ Rd w w.heap.size 2 m.lA m.logs.length (m.logs.flatMap logc) ∧ ∀ g ∈ m.logs, g.R w)
theorem LogV.R.below {w w' : World} {g : LogV} (h : g.R w) (hb : Below w.heap.size w w') : g.R w' := ⟨h.1, h.2.1, (h.2.2.below hb).more hb.size⟩
theorem LinesV.R.below {w w' : World} {m : LinesV} (h : m.R w) (hb : Below w.heap.size w w') : m.R w' :=
 ⟨⟨h.1.1, h.1.2.1, (h.1.2.2.below hb).more hb.size⟩, h.2.1, h.2.2.1, (h.2.2.2.1.below hb).more hb.size, fun g hg => (h.2.2.2.2 g hg).below hb⟩
def LinesV.off (C : Nat) (m : LinesV) : Prop := OffC C m.first.length m.fA ∧ OffC C m.logs.length m.lA ∧ ∀ g ∈ m.logs, OffC C g.l.length g.A
theorem LinesV.off_new {w : World} {m : LinesV} {C : Nat} (h : m.R w) (hC : w.heap.size ≤ C) : m.off C :=
 ⟨OffC.new h.1.2.2 hC, OffC.new h.2.2.2.1 hC, fun x hx => OffC.new (h.2.2.2.2 x hx).2.2 hC⟩
theorem LogV.R.set {w : World} {g : LogV} {C o : Nat} (h : g.R w) (hoff : OffC C g.l.length g.A) (x : Value) : g.R (w.setCell ⟨C, o, none⟩ x) := by
 refine ⟨h.1, h.2.1, ?_⟩
 rw [show (w.setCell ⟨C, o, none⟩ x).heap.size = w.heap.size by simp]
 exact Rd.set_off h.2.2 hoff x
theorem LinesV.R.set {w : World} {m : LinesV} {C o : Nat} (h : m.R w) (hoff : m.off C) (x : Value) : m.R (w.setCell ⟨C, o, none⟩ x) := by
 have es : (w.setCell ⟨C, o, none⟩ x).heap.size = w.heap.size := by simp
 refine ⟨⟨h.1.1, h.1.2.1, ?_⟩, h.2.1, h.2.2.1, ?_, fun y hy => (h.2.2.2.2 y hy).set (hoff.2.2 y hy) x⟩
 ·rw [es]; exact Rd.set_off h.1.2.2 hoff.1 x
 ·rw [es]; exact Rd.set_off h.2.2.2.1 hoff.2.1 x
theorem Rd.setAt {w : World} {B size n b off i : Nat} {xs : List Value} (h : Rd w B size (some ⟨b, off, none⟩) n xs) (hi : i < xs.length) (u : Value) : Rd (w.setCell ⟨b, off + i, none⟩ u) B size (some ⟨b, off, none⟩) n (xs.set i u) := by
 refine ⟨by rw [List.length_set]; exact h.1, fun hn => ?_⟩
 obtain ⟨b', off', e, hB, hc⟩ := h.2 hn
 injection e with e
 injection e with e1 e2
 subst e1 e2
 refine ⟨b, off, rfl, hB, fun j v hv => ?_⟩
 rw [List.getElem?_set] at hv
 by_cases hj : i = j
 ·subst hj
  rw [if_pos rfl, if_pos hi] at hv
  injection hv with hv
  subst hv
  exact World.cell?_setCell_same _ _ _ (hc i _ (List.getElem?_eq_getElem hi))
 ·rw [if_neg hj] at hv
  rw [World.cell?_setCell_other _ _ _ _ (by intro e; injection e with _ e; omega)]
  exact hc j v hv
theorem flatMap_set {α β : Type} {s : Nat} {g : α → List β} (hg : ∀ a, (g a).length = s) : ∀ (l : List α) (j i : Nat) (a a' : α) (v : β), l[j]? = some a → i < s → g a' = (g a).set i v → (l.flatMap g).set (j * s + i) v = (l.set j a').flatMap g
 | [], j, i, a, a', v, h, _, _ => by simp at h
 | b :: l, 0, i, a, a', v, h, hi, he => by
  simp only [List.getElem?_cons_zero, Option.some.injEq] at h
  subst h
  simp only [List.flatMap_cons, Nat.zero_mul, Nat.zero_add, List.set_cons_zero]
  rw [List.set_append_left _ _ (by rw [hg]; exact hi), he]
 | b :: l, j + 1, i, a, a', v, h, hi, he => by
  simp only [List.getElem?_cons_succ] at h
  simp only [List.flatMap_cons, List.set_cons_succ]
  rw [List.set_append_right _ _ (by rw [hg, Nat.succ_mul]; omega), hg, show (j + 1) * s + i - s = j * s + i by rw [Nat.succ_mul]; omega, flatMap_set hg l j i a a' v h hi he]
theorem own_cells {w : World} {base size n cap g : Nat} {e : TypeId} {xs : List Value} (h : w.ownsRow base e size (.slice (some ⟨g, 0, none⟩) n cap) n xs) : (∀ i v, xs[i]? = some v → w.cell? ⟨g, i, none⟩ = some v) ∧ (∀ o, w.frozen? ⟨g, o, none⟩ = false) := by
 obtain ⟨hl, h⟩ := h
 rcases h with ⟨e1, _⟩ | ⟨g', cap', cur, e1, hb, hg, _, _, _, ht⟩
 ·cases e1
 ·injection e1 with e1 _ _
  injection e1 with e1
  injection e1 with e1 _
  subst e1
  refine ⟨fun i v hv => ?_, fun o => by simp [World.frozen?, hg]⟩
  rw [← ht] at hv
  have hi := (List.getElem?_eq_some_iff.1 hv).1
  rw [List.length_take] at hi
  rw [List.getElem?_take_of_lt oM] at hv
  simp only [World.cell?, hg]
  simpa using hv
end Go.Proofs.YtnnmenmifphadaaGreatDoor
