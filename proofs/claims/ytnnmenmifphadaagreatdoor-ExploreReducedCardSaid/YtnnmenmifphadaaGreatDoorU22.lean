/- Package memory: look, joined or not. -/
import Derived.Deep.DeepCutAuto
import Derived.Test.YtnnmenmifphadaaGreatDoorU20
set_option linter.unusedSimpArgs false
set_option linter.unusedVariables false
set_option maxRecDepth 100000
set_option maxHeartbeats 40000000
namespace Go.Proofs.YtnnmenmifphadaaGreatDoor
open Go.RowKit Go.Maps
theorem mem_lookj (j : Bool) (m : MemV) (P : FuncId) (c : Value) (t k i : Nat) (h : HistV) (g : MsgV) (a : VwV) (w : World) (hR : m.R w) (hh : m.hs[k]? = some h) (hg : h.l[i]? = some g) (ha : m.vs[t]? = some a) (hn : m.vs.length ≤ 1000) (hL : m.hs.length ≤ 4096) (hi6 : i ≤ 1000000) (hent : ∀ args w, (callFunc P args).run Tryz.prog w = .ok (.enter P args) w)
   (hpick : ∀ W, h.R m.hs.length W → Calls Tryz.prog P #[c, (.agg #[.slice (h).A (h).l.length (h).cap]), .int .i64 (a.f k)] W (Ret (.int .i64 i) W)) :
   Calls Tryz.prog 157 #[(.agg #[.slice (m).pA (m).hs.length (m).pc, .slice (m).vA (m).vs.length (m).vc]), .int .i64 ((t : Int) + 1), .int .i64 k, .bool j, .func (Fn.func P) #[c] #[]] w fun e w' => ∃ G v', e = .returned (.tuple #[.agg #[.slice m.pA m.hs.length m.pc, .slice (some ⟨G, 0, none⟩) m.vs.length m.vs.length], (w3V g.x), .int .i64 0]) ∧ w.heap.size ≤ G ∧ (m.with (some ⟨G, 0, none⟩) m.vs.length t ⟨v', findF j a.f g.a.f k i⟩).R w' ∧ Below w.heap.size w w' := by
 have hkn : k < m.hs.length := (List.getElem?_eq_some_iff.1 hh).1
 have htn : t < m.vs.length := (List.getElem?_eq_some_iff.1 ha).1
 have hhR : h.R m.hs.length w := hR.1.2.2.2 h (List.mem_of_getElem? hh)
 have haR : a.R m.hs.length w := hR.2.2.2.2 a (List.mem_of_getElem? ha)
 obtain ⟨b, off, e, hb, c0⟩ := Rd.one hR.1.2.2.1 hkn hh
 obtain ⟨pA, pc, hs, vA, vc, vs⟩ := m
 simp only at e hkn htn hhR haR hn hL hh ha hpick
 subst e
 obtain ⟨m, hm⟩ : ∃ m, m = MemV.mk (some ⟨b, off, none⟩) pc hs vA vc vs := ⟨_, rfl⟩
 rw [← hm] at hR
 have hseen := fun W (hw : m.R W) => mem_seen m t a W hw (by rw [hm]; exact ha) (by rw [hm]; exact hn)
 have hat := fun W (hw : a.R hs.length W) => view_at hs.length hL a k W hw oM oM
 have hwrong := fun W => mem_wrong m ((t : Int) + 1) k W oM (by rw [hm]; show (t : Int) + 1 ≤ (vs.length : Int); omega) oM (by rw [hm]; show (k : Int) < (hs.length : Int); omega)
 have hfin := fun W (hw : m.R W) => mem_finds j m t k i h g a W hw (by rw [hm]; exact hh) hg (by rw [hm]; exact ha) (by rw [hm]; exact hn) (by rw [hm]; exact hL) hi6
 simp only [hm] at hseen hwrong hfin
 rw [hm] at hR
 have Hseen := hide hseen
 have Hat := hide hat
 have Hwrong := hide hwrong
 have Hfin := hide hfin
 have Hpick := hide hpick
 have HR := hide hR
 have Hh := hide hhR
 have HaR := hide haR
 have h0 : (0 : Int) ≤ (k : Int) := by omega
 have h1 : (k : Int) < (hs.length : Int) := by omega
 have hbz1 : b < w.heap.size + 1 := by omega
 have hbz2 : b < w.heap.size + 1 + 1 := by omega
 have hbz : b < w.heap.size + 1 + 1 + 1 := by omega
 unfold histv at c0
 clear hR hhR haR hh hg ha hn hL hi6 hkn hm hat hseen hwrong hfin hpick
 go_enter Tryz.func157, Tryz.ntmps157
 go_wp2_with (first
   | (go_at_call 155; refine (Hwrong.out _).mono ?_; rintro e w1 ⟨rfl, hb1⟩; obtain ⟨hcc1, hff1, hs1⟩ := bC hb1; (try simp at hs1); have hz1 : w.heap.size < w1.heap.size := oM; have hz1a : w.heap.size + 1 < w1.heap.size := oM; have hz1b : w.heap.size + 1 + 1 < w1.heap.size := oM; have hz1c : b < w1.heap.size := oM))
 have q0 : w1.cell? ⟨w.heap.size, 0, none⟩ = some (.slice (some ⟨b, off, none⟩) hs.length pc) := by go_simp
 have q1 : w1.cell? ⟨w.heap.size, 1, none⟩ = some (.slice vA vs.length vc) := by go_simp
 have q2 : w1.cell? ⟨b, off + k, none⟩ = some (.slice h.A h.l.length h.cap) := by go_simp
 have r0 : w1.cell? ⟨w.heap.size + 1, 0, none⟩ = some (.slice none 0 0) := by go_simp
 have r1 : w1.cell? ⟨w.heap.size + 1, 1, none⟩ = some (.slice none 0 0) := by go_simp
 have r2 : w1.cell? ⟨w.heap.size + 1 + 1, 0, none⟩ = some (.int .i64 0) := by go_simp
 have r3 : w1.cell? ⟨w.heap.size + 1 + 1, 1, none⟩ = some (.int .u32 0) := by go_simp
 have r4 : w1.cell? ⟨w.heap.size + 1 + 1, 2, none⟩ = some (.int .u32 0) := by go_simp
 have f0 : ∀ o, w1.frozen? ⟨w.heap.size + 1, o, none⟩ = false := by intro o; go_simp
 have f1 : ∀ o, w1.frozen? ⟨w.heap.size + 1 + 1, o, none⟩ = false := by intro o; go_simp
 have hBa : Below w.heap.size w w1 := ab0
 have fN : ∀ o, w1.frozen? ⟨w.heap.size, o, none⟩ = false := by intro o; go_simp
 clear hcc1 hff1 hb1
 have HS : HX w.heap.size [.slice (some ⟨b, off, none⟩) hs.length pc, .slice vA vs.length vc] b (off + k) (.slice h.A h.l.length h.cap) [] w1 := ⟨BoxC.of2 q0 q1 (by intro o; exact fN o), CellB.of q2, by simp⟩
 go_cut [14, 15] from 25 to 47 (fun s14 s15 wx => ∃ (B14 B15 g5 : Nat) (v5 : Option Nat), s14 = .pointer (some ⟨B14, 0, none⟩) ∧ s15 = .pointer (some ⟨B15, 0, none⟩) ∧ w1.heap.size ≤ B14 ∧ w1.heap.size ≤ B15 ∧ (wx.cell? ⟨B14, 0, none⟩ = some (.slice (some ⟨b, off, none⟩) hs.length pc) ∧ wx.cell? ⟨B14, 1, none⟩ = some (.slice (some ⟨g5, 0, none⟩) vs.length vs.length)) ∧ (wx.cell? ⟨B15, 0, none⟩ = some (.int .i64 g.x.v) ∧ wx.cell? ⟨B15, 1, none⟩ = some (.int .u32 g.x.r) ∧ wx.cell? ⟨B15, 2, none⟩ = some (.int .u32 g.x.f)) ∧ w1.heap.size ≤ g5 ∧ Hid (NewV hs.length g5 vs.length (vs.set t ⟨v5, findF j a.f g.a.f k i⟩) ⟨v5, findF j a.f g.a.f k i⟩ wx) ∧ Below w1.heap.size w1 wx)
 case first =>
  refine wp_region_held_drew (S := (HX w.heap.size [.slice (some ⟨b, off, none⟩) hs.length pc, .slice vA vs.length vc] b (off + k) (.slice h.A h.l.length h.cap) ([]))) kR ab5 (fun hHeld => ?_)
  (try simp only [HX_drew] at hHeld)
  refine tq2 0 ?_
  refine tq2 1 ?_
  refine tq2 2 ?_
  refine tq2 3 ?_
  refine tq2 4 ?_
  refine tq2 5 ?_
  refine tq2 6 ?_
  refine tq2 7 ?_
  refine tq2 8 ?_
  refine tq2 9 ?_
  refine tq2 10 ?_
  refine tq2 12 ?_
  refine tq2 15 ?_
  refine wR (rs := [11, 20, 21]) ?_
  focus
    refine aI (fun K hK => ?_) (aI (fun K hK => ?_) (aE fun K hK => ?_))
    focus
     go_simp
     (go_at_call 47; refine (Hseen.out _ (HR.out.below ab0)).mono ?_; rintro e w2 ⟨rfl, hb2'⟩; have hb2 : Below _ _ w2 := ab15; have hs2 := hb2.size; (try simp at hs2))
     go_wp2_with fail
     refine oK hK ab5 fun hHeld => ?_
     clear hK K
     refine wR (rs := [13, 20, 21]) ?_
     refine aI (fun K hK => ?_) (aI (fun K hK => ?_) (aE fun K hK => ?_))
     focus
      go_simp
      (go_at_call 48; refine (Hat.out _ (HaR.out.below ab0)).mono ?_; rintro e w3 ⟨rfl, hb3'⟩; have hb3 : Below _ _ w3 := ab17; have hs3 := hb3.size; (try simp at hs3))
      go_wp2_with fail
      refine oK hK ab5 fun hHeld => ?_
      clear hK K
      refine wR (rs := [14, 20, 21]) ?_
      refine aI (fun K hK => ?_) (aI (fun K hK => ?_) (aE fun K hK => ?_))
      focus
       go_simp
       (with_reducible refine (Hpick.out _ (Hh.out.below ab0)).mono ?_; rintro e w4 ⟨rfl, hb4'⟩; have hb4 : Below _ _ w4 := ab10; have hs4 := hb4.size; (try simp at hs4))
       go_wp2_with fail
       refine oK hK ab5 fun hHeld => ?_
       clear hK K
       refine wR (rs := [16, 20, 21]) ?_
       refine aI (fun K hK => ?_) (aI (fun K hK => ?_) (aE fun K hK => ?_))
       focus
        go_simp
        (go_at_call 170; refine (Hfin.out _ (HR.out.below ab0)).mono ?_; rintro e w5 ⟨g5, v5, rfl, hg5, hm5, hb5'⟩; have hb5 : Below _ _ w5 := ab9; have hs5 := hb5.size; (try simp at hs5); (try simp at hg5); have Hm5 : Hid (NewV hs.length g5 vs.length (vs.set t ⟨v5, findF j a.f g.a.f k i⟩) ⟨v5, findF j a.f g.a.f k i⟩ w5) := hide (NewV.of rfl htn hm5); clear hm5; have hgz5 : g5 < w5.heap.size := Hm5.out.lt oM)
        go_wp2_with fail
        refine oK hK ab5 fun hHeld => ?_
        clear hK K
        refine tq2 17 ?_
        refine tq2 18 ?_
        refine tq2 19 ?_
        refine wR (rs := [20, 21]) ?_
        refine aI (fun K hK => ?_) (aE fun K hK => ?_)
        focus
         go_simp
         go_wp2_with fail
         refine oS hK (S' := (HX _ _ _ _ _ ((w5.heap.size, 2) :: _))) (fun w h => HX.pop h) ab3 fun hHeld => ?_
         clear hK K
         refine wE 21 fun K hK => ?_
         go_simp
         go_wp2_with fail
         refine oS hK (S' := (HX _ _ _ _ _ ((w5.heap.size + 1, 3) :: _))) (fun w h => HX.pop h) ab3 fun hHeld => ?_
         clear hK K
         refine wE 22 fun K hK => ?_
         have hE := hHeld.box (B := (w5.heap.size)) (n := 2) sM; have kf := hE.fz; obtain ⟨u0, k0⟩ := hE.at (j := 0) oM; obtain ⟨u1, k1⟩ := hE.at (j := 1) oM
         go_simp
         go_wp2_with fail
         refine oK hK ab1 fun hHeld => ?_
         clear hK K
         refine wE 23 fun K hK => ?_
         have hE := hHeld.box (B := (w5.heap.size + 1)) (n := 3) sM; have kf := hE.fz; obtain ⟨u0, k0⟩ := hE.at (j := 0) oM; obtain ⟨u1, k1⟩ := hE.at (j := 1) oM; obtain ⟨u2, k2⟩ := hE.at (j := 2) oM
         go_simp
         go_wp2_with fail
         refine oK hK ab1 fun hHeld => ?_
         clear hK K
         refine wD ?_
        rotate_left 1
        focus
         go_simp
         go_wp2_with fail
         refine oS hK (S' := (HX _ _ _ _ _ ((w5.heap.size, 3) :: _))) (fun w h => HX.pop h) ab3 fun hHeld => ?_
         clear hK K
         refine wE 20 fun K hK => ?_
         go_simp
         go_wp2_with fail
         refine oS hK (S' := (HX _ _ _ _ _ ((w5.heap.size + 1, 2) :: _))) (fun w h => HX.pop h) ab3 fun hHeld => ?_
         clear hK K
         refine wE 22 fun K hK => ?_
         have hE := hHeld.box (B := (w5.heap.size + 1)) (n := 2) sM; have kf := hE.fz; obtain ⟨u0, k0⟩ := hE.at (j := 0) oM; obtain ⟨u1, k1⟩ := hE.at (j := 1) oM
         go_simp
         go_wp2_with fail
         refine oK hK ab1 fun hHeld => ?_
         clear hK K
         refine wE 23 fun K hK => ?_
         have hE := hHeld.box (B := (w5.heap.size)) (n := 3) sM; have kf := hE.fz; obtain ⟨u0, k0⟩ := hE.at (j := 0) oM; obtain ⟨u1, k1⟩ := hE.at (j := 1) oM; obtain ⟨u2, k2⟩ := hE.at (j := 2) oM
         go_simp
         go_wp2_with fail
         refine oK hK ab1 fun hHeld => ?_
         clear hK K
         refine wD ?_
        rotate_left 1
       rotate_left 2
       focus
        go_simp
        go_wp2_with fail
        refine oS hK (S' := (HX _ _ _ _ _ ((w4.heap.size, 2) :: _))) (fun w h => HX.pop h) ab3 fun hHeld => ?_
        clear hK K
        refine wR (rs := [16, 21]) ?_
        refine aI (fun K hK => ?_) (aE fun K hK => ?_)
        focus
         go_simp
         (go_at_call 170; refine (Hfin.out _ (HR.out.below ab0)).mono ?_; rintro e w5 ⟨g5, v5, rfl, hg5, hm5, hb5'⟩; have hb5 : Below _ _ w5 := ab9; have hs5 := hb5.size; (try simp at hs5); (try simp at hg5); have Hm5 : Hid (NewV hs.length g5 vs.length (vs.set t ⟨v5, findF j a.f g.a.f k i⟩) ⟨v5, findF j a.f g.a.f k i⟩ w5) := hide (NewV.of rfl htn hm5); clear hm5; have hgz5 : g5 < w5.heap.size := Hm5.out.lt oM)
         go_wp2_with fail
         refine oK hK ab2 fun hHeld => ?_
         clear hK K
         refine tq2 17 ?_
         refine tq2 18 ?_
         refine tq2 19 ?_
         refine wE 21 fun K hK => ?_
         go_simp
         go_wp2_with fail
         refine oS hK (S' := (HX _ _ _ _ _ ((w5.heap.size, 3) :: _))) (fun w h => HX.pop h) ab3 fun hHeld => ?_
         clear hK K
         refine wE 22 fun K hK => ?_
         have hE := hHeld.box (B := (w4.heap.size)) (n := 2) sM; have kf := hE.fz; obtain ⟨u0, k0⟩ := hE.at (j := 0) oM; obtain ⟨u1, k1⟩ := hE.at (j := 1) oM
         go_simp
         go_wp2_with fail
         refine oK hK ab1 fun hHeld => ?_
         clear hK K
         refine wE 23 fun K hK => ?_
         have hE := hHeld.box (B := (w5.heap.size)) (n := 3) sM; have kf := hE.fz; obtain ⟨u0, k0⟩ := hE.at (j := 0) oM; obtain ⟨u1, k1⟩ := hE.at (j := 1) oM; obtain ⟨u2, k2⟩ := hE.at (j := 2) oM
         go_simp
         go_wp2_with fail
         refine oK hK ab1 fun hHeld => ?_
         clear hK K
         refine wD ?_
        rotate_left 1
        focus
         go_simp
         go_wp2_with fail
         refine oS hK (S' := (HX _ _ _ _ _ ((w4.heap.size + 1, 3) :: _))) (fun w h => HX.pop h) ab3 fun hHeld => ?_
         clear hK K
         refine wE 16 fun K hK => ?_
         go_simp
         (go_at_call 170; refine (Hfin.out _ (HR.out.below ab0)).mono ?_; rintro e w5 ⟨g5, v5, rfl, hg5, hm5, hb5'⟩; have hb5 : Below _ _ w5 := ab9; have hs5 := hb5.size; (try simp at hs5); (try simp at hg5); have Hm5 : Hid (NewV hs.length g5 vs.length (vs.set t ⟨v5, findF j a.f g.a.f k i⟩) ⟨v5, findF j a.f g.a.f k i⟩ w5) := hide (NewV.of rfl htn hm5); clear hm5; have hgz5 : g5 < w5.heap.size := Hm5.out.lt oM)
         go_wp2_with fail
         refine oK hK ab2 fun hHeld => ?_
         clear hK K
         refine tq2 17 ?_
         refine tq2 18 ?_
         refine tq2 19 ?_
         refine wE 22 fun K hK => ?_
         have hE := hHeld.box (B := (w4.heap.size)) (n := 2) sM; have kf := hE.fz; obtain ⟨u0, k0⟩ := hE.at (j := 0) oM; obtain ⟨u1, k1⟩ := hE.at (j := 1) oM
         go_simp
         go_wp2_with fail
         refine oK hK ab1 fun hHeld => ?_
         clear hK K
         refine wE 23 fun K hK => ?_
         have hE := hHeld.box (B := (w4.heap.size + 1)) (n := 3) sM; have kf := hE.fz; obtain ⟨u0, k0⟩ := hE.at (j := 0) oM; obtain ⟨u1, k1⟩ := hE.at (j := 1) oM; obtain ⟨u2, k2⟩ := hE.at (j := 2) oM
         go_simp
         go_wp2_with fail
         refine oK hK ab1 fun hHeld => ?_
         clear hK K
         refine wD ?_
        rotate_left 1
       rotate_left 2
       focus
        go_simp
        go_wp2_with fail
        refine oS hK (S' := (HX _ _ _ _ _ ((w4.heap.size, 3) :: _))) (fun w h => HX.pop h) ab3 fun hHeld => ?_
        clear hK K
        refine wR (rs := [16, 20]) ?_
        refine aI (fun K hK => ?_) (aE fun K hK => ?_)
        focus
         go_simp
         (go_at_call 170; refine (Hfin.out _ (HR.out.below ab0)).mono ?_; rintro e w5 ⟨g5, v5, rfl, hg5, hm5, hb5'⟩; have hb5 : Below _ _ w5 := ab9; have hs5 := hb5.size; (try simp at hs5); (try simp at hg5); have Hm5 : Hid (NewV hs.length g5 vs.length (vs.set t ⟨v5, findF j a.f g.a.f k i⟩) ⟨v5, findF j a.f g.a.f k i⟩ w5) := hide (NewV.of rfl htn hm5); clear hm5; have hgz5 : g5 < w5.heap.size := Hm5.out.lt oM)
         go_wp2_with fail
         refine oK hK ab2 fun hHeld => ?_
         clear hK K
         refine tq2 17 ?_
         refine tq2 18 ?_
         refine tq2 19 ?_
         refine wE 20 fun K hK => ?_
         go_simp
         go_wp2_with fail
         refine oS hK (S' := (HX _ _ _ _ _ ((w5.heap.size, 2) :: _))) (fun w h => HX.pop h) ab3 fun hHeld => ?_
         clear hK K
         refine wE 22 fun K hK => ?_
         have hE := hHeld.box (B := (w5.heap.size)) (n := 2) sM; have kf := hE.fz; obtain ⟨u0, k0⟩ := hE.at (j := 0) oM; obtain ⟨u1, k1⟩ := hE.at (j := 1) oM
         go_simp
         go_wp2_with fail
         refine oK hK ab1 fun hHeld => ?_
         clear hK K
         refine wE 23 fun K hK => ?_
         have hE := hHeld.box (B := (w4.heap.size)) (n := 3) sM; have kf := hE.fz; obtain ⟨u0, k0⟩ := hE.at (j := 0) oM; obtain ⟨u1, k1⟩ := hE.at (j := 1) oM; obtain ⟨u2, k2⟩ := hE.at (j := 2) oM
         go_simp
         go_wp2_with fail
         refine oK hK ab1 fun hHeld => ?_
         clear hK K
         refine wD ?_
        rotate_left 1
        focus
         go_simp
         go_wp2_with fail
         refine oS hK (S' := (HX _ _ _ _ _ ((w4.heap.size + 1, 2) :: _))) (fun w h => HX.pop h) ab3 fun hHeld => ?_
         clear hK K
         refine wE 16 fun K hK => ?_
         go_simp
         (go_at_call 170; refine (Hfin.out _ (HR.out.below ab0)).mono ?_; rintro e w5 ⟨g5, v5, rfl, hg5, hm5, hb5'⟩; have hb5 : Below _ _ w5 := ab9; have hs5 := hb5.size; (try simp at hs5); (try simp at hg5); have Hm5 : Hid (NewV hs.length g5 vs.length (vs.set t ⟨v5, findF j a.f g.a.f k i⟩) ⟨v5, findF j a.f g.a.f k i⟩ w5) := hide (NewV.of rfl htn hm5); clear hm5; have hgz5 : g5 < w5.heap.size := Hm5.out.lt oM)
         go_wp2_with fail
         refine oK hK ab2 fun hHeld => ?_
         clear hK K
         refine tq2 17 ?_
         refine tq2 18 ?_
         refine tq2 19 ?_
         refine wE 22 fun K hK => ?_
         have hE := hHeld.box (B := (w4.heap.size + 1)) (n := 2) sM; have kf := hE.fz; obtain ⟨u0, k0⟩ := hE.at (j := 0) oM; obtain ⟨u1, k1⟩ := hE.at (j := 1) oM
         go_simp
         go_wp2_with fail
         refine oK hK ab1 fun hHeld => ?_
         clear hK K
         refine wE 23 fun K hK => ?_
         have hE := hHeld.box (B := (w4.heap.size)) (n := 3) sM; have kf := hE.fz; obtain ⟨u0, k0⟩ := hE.at (j := 0) oM; obtain ⟨u1, k1⟩ := hE.at (j := 1) oM; obtain ⟨u2, k2⟩ := hE.at (j := 2) oM
         go_simp
         go_wp2_with fail
         refine oK hK ab1 fun hHeld => ?_
         clear hK K
         refine wD ?_
        rotate_left 1
       rotate_left 2
      rotate_left 6
      focus
       go_simp
       go_wp2_with fail
       refine oS hK (S' := (HX _ _ _ _ _ ((w3.heap.size, 2) :: _))) (fun w h => HX.pop h) ab3 fun hHeld => ?_
       clear hK K
       refine wR (rs := [14, 21]) ?_
       refine aI (fun K hK => ?_) (aE fun K hK => ?_)
       focus
        go_simp
        (with_reducible refine (Hpick.out _ (Hh.out.below ab0)).mono ?_; rintro e w4 ⟨rfl, hb4'⟩; have hb4 : Below _ _ w4 := ab10; have hs4 := hb4.size; (try simp at hs4))
        go_wp2_with fail
        refine oK hK ab2 fun hHeld => ?_
        clear hK K
        refine wR (rs := [16, 21]) ?_
        refine aI (fun K hK => ?_) (aE fun K hK => ?_)
        focus
         go_simp
         (go_at_call 170; refine (Hfin.out _ (HR.out.below ab0)).mono ?_; rintro e w5 ⟨g5, v5, rfl, hg5, hm5, hb5'⟩; have hb5 : Below _ _ w5 := ab9; have hs5 := hb5.size; (try simp at hs5); (try simp at hg5); have Hm5 : Hid (NewV hs.length g5 vs.length (vs.set t ⟨v5, findF j a.f g.a.f k i⟩) ⟨v5, findF j a.f g.a.f k i⟩ w5) := hide (NewV.of rfl htn hm5); clear hm5; have hgz5 : g5 < w5.heap.size := Hm5.out.lt oM)
         go_wp2_with fail
         refine oK hK ab2 fun hHeld => ?_
         clear hK K
         refine tq2 17 ?_
         refine tq2 18 ?_
         refine tq2 19 ?_
         refine wE 21 fun K hK => ?_
         go_simp
         go_wp2_with fail
         refine oS hK (S' := (HX _ _ _ _ _ ((w5.heap.size, 3) :: _))) (fun w h => HX.pop h) ab3 fun hHeld => ?_
         clear hK K
         refine wE 22 fun K hK => ?_
         have hE := hHeld.box (B := (w3.heap.size)) (n := 2) sM; have kf := hE.fz; obtain ⟨u0, k0⟩ := hE.at (j := 0) oM; obtain ⟨u1, k1⟩ := hE.at (j := 1) oM
         go_simp
         go_wp2_with fail
         refine oK hK ab1 fun hHeld => ?_
         clear hK K
         refine wE 23 fun K hK => ?_
         have hE := hHeld.box (B := (w5.heap.size)) (n := 3) sM; have kf := hE.fz; obtain ⟨u0, k0⟩ := hE.at (j := 0) oM; obtain ⟨u1, k1⟩ := hE.at (j := 1) oM; obtain ⟨u2, k2⟩ := hE.at (j := 2) oM
         go_simp
         go_wp2_with fail
         refine oK hK ab1 fun hHeld => ?_
         clear hK K
         refine wD ?_
        rotate_left 1
        focus
         go_simp
         go_wp2_with fail
         refine oS hK (S' := (HX _ _ _ _ _ ((w4.heap.size, 3) :: _))) (fun w h => HX.pop h) ab3 fun hHeld => ?_
         clear hK K
         refine wE 16 fun K hK => ?_
         go_simp
         (go_at_call 170; refine (Hfin.out _ (HR.out.below ab0)).mono ?_; rintro e w5 ⟨g5, v5, rfl, hg5, hm5, hb5'⟩; have hb5 : Below _ _ w5 := ab9; have hs5 := hb5.size; (try simp at hs5); (try simp at hg5); have Hm5 : Hid (NewV hs.length g5 vs.length (vs.set t ⟨v5, findF j a.f g.a.f k i⟩) ⟨v5, findF j a.f g.a.f k i⟩ w5) := hide (NewV.of rfl htn hm5); clear hm5; have hgz5 : g5 < w5.heap.size := Hm5.out.lt oM)
         go_wp2_with fail
         refine oK hK ab2 fun hHeld => ?_
         clear hK K
         refine tq2 17 ?_
         refine tq2 18 ?_
         refine tq2 19 ?_
         refine wE 22 fun K hK => ?_
         have hE := hHeld.box (B := (w3.heap.size)) (n := 2) sM; have kf := hE.fz; obtain ⟨u0, k0⟩ := hE.at (j := 0) oM; obtain ⟨u1, k1⟩ := hE.at (j := 1) oM
         go_simp
         go_wp2_with fail
         refine oK hK ab1 fun hHeld => ?_
         clear hK K
         refine wE 23 fun K hK => ?_
         have hE := hHeld.box (B := (w4.heap.size)) (n := 3) sM; have kf := hE.fz; obtain ⟨u0, k0⟩ := hE.at (j := 0) oM; obtain ⟨u1, k1⟩ := hE.at (j := 1) oM; obtain ⟨u2, k2⟩ := hE.at (j := 2) oM
         go_simp
         go_wp2_with fail
         refine oK hK ab1 fun hHeld => ?_
         clear hK K
         refine wD ?_
        rotate_left 1
       rotate_left 2
       focus
        go_simp
        go_wp2_with fail
        refine oS hK (S' := (HX _ _ _ _ _ ((w3.heap.size + 1, 3) :: _))) (fun w h => HX.pop h) ab3 fun hHeld => ?_
        clear hK K
        refine wE 14 fun K hK => ?_
        go_simp
        (with_reducible refine (Hpick.out _ (Hh.out.below ab0)).mono ?_; rintro e w4 ⟨rfl, hb4'⟩; have hb4 : Below _ _ w4 := ab10; have hs4 := hb4.size; (try simp at hs4))
        go_wp2_with fail
        refine oK hK ab2 fun hHeld => ?_
        clear hK K
        refine wE 16 fun K hK => ?_
        go_simp
        (go_at_call 170; refine (Hfin.out _ (HR.out.below ab0)).mono ?_; rintro e w5 ⟨g5, v5, rfl, hg5, hm5, hb5'⟩; have hb5 : Below _ _ w5 := ab9; have hs5 := hb5.size; (try simp at hs5); (try simp at hg5); have Hm5 : Hid (NewV hs.length g5 vs.length (vs.set t ⟨v5, findF j a.f g.a.f k i⟩) ⟨v5, findF j a.f g.a.f k i⟩ w5) := hide (NewV.of rfl htn hm5); clear hm5; have hgz5 : g5 < w5.heap.size := Hm5.out.lt oM)
        go_wp2_with fail
        refine oK hK ab2 fun hHeld => ?_
        clear hK K
        refine tq2 17 ?_
        refine tq2 18 ?_
        refine tq2 19 ?_
        refine wE 22 fun K hK => ?_
        have hE := hHeld.box (B := (w3.heap.size)) (n := 2) sM; have kf := hE.fz; obtain ⟨u0, k0⟩ := hE.at (j := 0) oM; obtain ⟨u1, k1⟩ := hE.at (j := 1) oM
        go_simp
        go_wp2_with fail
        refine oK hK ab1 fun hHeld => ?_
        clear hK K
        refine wE 23 fun K hK => ?_
        have hE := hHeld.box (B := (w3.heap.size + 1)) (n := 3) sM; have kf := hE.fz; obtain ⟨u0, k0⟩ := hE.at (j := 0) oM; obtain ⟨u1, k1⟩ := hE.at (j := 1) oM; obtain ⟨u2, k2⟩ := hE.at (j := 2) oM
        go_simp
        go_wp2_with fail
        refine oK hK ab1 fun hHeld => ?_
        clear hK K
        refine wD ?_
       rotate_left 1
      rotate_left 3
      focus
       go_simp
       go_wp2_with fail
       refine oS hK (S' := (HX _ _ _ _ _ ((w3.heap.size, 3) :: _))) (fun w h => HX.pop h) ab3 fun hHeld => ?_
       clear hK K
       refine wR (rs := [14, 20]) ?_
       refine aI (fun K hK => ?_) (aE fun K hK => ?_)
       focus
        go_simp
        (with_reducible refine (Hpick.out _ (Hh.out.below ab0)).mono ?_; rintro e w4 ⟨rfl, hb4'⟩; have hb4 : Below _ _ w4 := ab10; have hs4 := hb4.size; (try simp at hs4))
        go_wp2_with fail
        refine oK hK ab2 fun hHeld => ?_
        clear hK K
        refine wR (rs := [16, 20]) ?_
        refine aI (fun K hK => ?_) (aE fun K hK => ?_)
        focus
         go_simp
         (go_at_call 170; refine (Hfin.out _ (HR.out.below ab0)).mono ?_; rintro e w5 ⟨g5, v5, rfl, hg5, hm5, hb5'⟩; have hb5 : Below _ _ w5 := ab9; have hs5 := hb5.size; (try simp at hs5); (try simp at hg5); have Hm5 : Hid (NewV hs.length g5 vs.length (vs.set t ⟨v5, findF j a.f g.a.f k i⟩) ⟨v5, findF j a.f g.a.f k i⟩ w5) := hide (NewV.of rfl htn hm5); clear hm5; have hgz5 : g5 < w5.heap.size := Hm5.out.lt oM)
         go_wp2_with fail
         refine oK hK ab2 fun hHeld => ?_
         clear hK K
         refine tq2 17 ?_
         refine tq2 18 ?_
         refine tq2 19 ?_
         refine wE 20 fun K hK => ?_
         go_simp
         go_wp2_with fail
         refine oS hK (S' := (HX _ _ _ _ _ ((w5.heap.size, 2) :: _))) (fun w h => HX.pop h) ab3 fun hHeld => ?_
         clear hK K
         refine wE 22 fun K hK => ?_
         have hE := hHeld.box (B := (w5.heap.size)) (n := 2) sM; have kf := hE.fz; obtain ⟨u0, k0⟩ := hE.at (j := 0) oM; obtain ⟨u1, k1⟩ := hE.at (j := 1) oM
         go_simp
         go_wp2_with fail
         refine oK hK ab1 fun hHeld => ?_
         clear hK K
         refine wE 23 fun K hK => ?_
         have hE := hHeld.box (B := (w3.heap.size)) (n := 3) sM; have kf := hE.fz; obtain ⟨u0, k0⟩ := hE.at (j := 0) oM; obtain ⟨u1, k1⟩ := hE.at (j := 1) oM; obtain ⟨u2, k2⟩ := hE.at (j := 2) oM
         go_simp
         go_wp2_with fail
         refine oK hK ab1 fun hHeld => ?_
         clear hK K
         refine wD ?_
        rotate_left 1
        focus
         go_simp
         go_wp2_with fail
         refine oS hK (S' := (HX _ _ _ _ _ ((w4.heap.size, 2) :: _))) (fun w h => HX.pop h) ab3 fun hHeld => ?_
         clear hK K
         refine wE 16 fun K hK => ?_
         go_simp
         (go_at_call 170; refine (Hfin.out _ (HR.out.below ab0)).mono ?_; rintro e w5 ⟨g5, v5, rfl, hg5, hm5, hb5'⟩; have hb5 : Below _ _ w5 := ab9; have hs5 := hb5.size; (try simp at hs5); (try simp at hg5); have Hm5 : Hid (NewV hs.length g5 vs.length (vs.set t ⟨v5, findF j a.f g.a.f k i⟩) ⟨v5, findF j a.f g.a.f k i⟩ w5) := hide (NewV.of rfl htn hm5); clear hm5; have hgz5 : g5 < w5.heap.size := Hm5.out.lt oM)
         go_wp2_with fail
         refine oK hK ab2 fun hHeld => ?_
         clear hK K
         refine tq2 17 ?_
         refine tq2 18 ?_
         refine tq2 19 ?_
         refine wE 22 fun K hK => ?_
         have hE := hHeld.box (B := (w4.heap.size)) (n := 2) sM; have kf := hE.fz; obtain ⟨u0, k0⟩ := hE.at (j := 0) oM; obtain ⟨u1, k1⟩ := hE.at (j := 1) oM
         go_simp
         go_wp2_with fail
         refine oK hK ab1 fun hHeld => ?_
         clear hK K
         refine wE 23 fun K hK => ?_
         have hE := hHeld.box (B := (w3.heap.size)) (n := 3) sM; have kf := hE.fz; obtain ⟨u0, k0⟩ := hE.at (j := 0) oM; obtain ⟨u1, k1⟩ := hE.at (j := 1) oM; obtain ⟨u2, k2⟩ := hE.at (j := 2) oM
         go_simp
         go_wp2_with fail
         refine oK hK ab1 fun hHeld => ?_
         clear hK K
         refine wD ?_
        rotate_left 1
       rotate_left 2
       focus
        go_simp
        go_wp2_with fail
        refine oS hK (S' := (HX _ _ _ _ _ ((w3.heap.size + 1, 2) :: _))) (fun w h => HX.pop h) ab3 fun hHeld => ?_
        clear hK K
        refine wE 14 fun K hK => ?_
        go_simp
        (with_reducible refine (Hpick.out _ (Hh.out.below ab0)).mono ?_; rintro e w4 ⟨rfl, hb4'⟩; have hb4 : Below _ _ w4 := ab10; have hs4 := hb4.size; (try simp at hs4))
        go_wp2_with fail
        refine oK hK ab2 fun hHeld => ?_
        clear hK K
        refine wE 16 fun K hK => ?_
        go_simp
        (go_at_call 170; refine (Hfin.out _ (HR.out.below ab0)).mono ?_; rintro e w5 ⟨g5, v5, rfl, hg5, hm5, hb5'⟩; have hb5 : Below _ _ w5 := ab9; have hs5 := hb5.size; (try simp at hs5); (try simp at hg5); have Hm5 : Hid (NewV hs.length g5 vs.length (vs.set t ⟨v5, findF j a.f g.a.f k i⟩) ⟨v5, findF j a.f g.a.f k i⟩ w5) := hide (NewV.of rfl htn hm5); clear hm5; have hgz5 : g5 < w5.heap.size := Hm5.out.lt oM)
        go_wp2_with fail
        refine oK hK ab2 fun hHeld => ?_
        clear hK K
        refine tq2 17 ?_
        refine tq2 18 ?_
        refine tq2 19 ?_
        refine wE 22 fun K hK => ?_
        have hE := hHeld.box (B := (w3.heap.size + 1)) (n := 2) sM; have kf := hE.fz; obtain ⟨u0, k0⟩ := hE.at (j := 0) oM; obtain ⟨u1, k1⟩ := hE.at (j := 1) oM
        go_simp
        go_wp2_with fail
        refine oK hK ab1 fun hHeld => ?_
        clear hK K
        refine wE 23 fun K hK => ?_
        have hE := hHeld.box (B := (w3.heap.size)) (n := 3) sM; have kf := hE.fz; obtain ⟨u0, k0⟩ := hE.at (j := 0) oM; obtain ⟨u1, k1⟩ := hE.at (j := 1) oM; obtain ⟨u2, k2⟩ := hE.at (j := 2) oM
        go_simp
        go_wp2_with fail
        refine oK hK ab1 fun hHeld => ?_
        clear hK K
        refine wD ?_
       rotate_left 1
      rotate_left 3
     rotate_left 12
     focus
      go_simp
      go_wp2_with fail
      refine oS hK (S' := (HX _ _ _ _ _ ((w2.heap.size, 2) :: _))) (fun w h => HX.pop h) ab3 fun hHeld => ?_
      clear hK K
      refine wR (rs := [13, 21]) ?_
      refine aI (fun K hK => ?_) (aE fun K hK => ?_)
      focus
       go_simp
       (go_at_call 48; refine (Hat.out _ (HaR.out.below ab0)).mono ?_; rintro e w3 ⟨rfl, hb3'⟩; have hb3 : Below _ _ w3 := ab17; have hs3 := hb3.size; (try simp at hs3))
       go_wp2_with fail
       refine oK hK ab2 fun hHeld => ?_
       clear hK K
       refine wR (rs := [14, 21]) ?_
       refine aI (fun K hK => ?_) (aE fun K hK => ?_)
       focus
        go_simp
        (with_reducible refine (Hpick.out _ (Hh.out.below ab0)).mono ?_; rintro e w4 ⟨rfl, hb4'⟩; have hb4 : Below _ _ w4 := ab10; have hs4 := hb4.size; (try simp at hs4))
        go_wp2_with fail
        refine oK hK ab2 fun hHeld => ?_
        clear hK K
        refine wR (rs := [16, 21]) ?_
        refine aI (fun K hK => ?_) (aE fun K hK => ?_)
        focus
         go_simp
         (go_at_call 170; refine (Hfin.out _ (HR.out.below ab0)).mono ?_; rintro e w5 ⟨g5, v5, rfl, hg5, hm5, hb5'⟩; have hb5 : Below _ _ w5 := ab9; have hs5 := hb5.size; (try simp at hs5); (try simp at hg5); have Hm5 : Hid (NewV hs.length g5 vs.length (vs.set t ⟨v5, findF j a.f g.a.f k i⟩) ⟨v5, findF j a.f g.a.f k i⟩ w5) := hide (NewV.of rfl htn hm5); clear hm5; have hgz5 : g5 < w5.heap.size := Hm5.out.lt oM)
         go_wp2_with fail
         refine oK hK ab2 fun hHeld => ?_
         clear hK K
         refine tq2 17 ?_
         refine tq2 18 ?_
         refine tq2 19 ?_
         refine wE 21 fun K hK => ?_
         go_simp
         go_wp2_with fail
         refine oS hK (S' := (HX _ _ _ _ _ ((w5.heap.size, 3) :: _))) (fun w h => HX.pop h) ab3 fun hHeld => ?_
         clear hK K
         refine wE 22 fun K hK => ?_
         have hE := hHeld.box (B := (w2.heap.size)) (n := 2) sM; have kf := hE.fz; obtain ⟨u0, k0⟩ := hE.at (j := 0) oM; obtain ⟨u1, k1⟩ := hE.at (j := 1) oM
         go_simp
         go_wp2_with fail
         refine oK hK ab1 fun hHeld => ?_
         clear hK K
         refine wE 23 fun K hK => ?_
         have hE := hHeld.box (B := (w5.heap.size)) (n := 3) sM; have kf := hE.fz; obtain ⟨u0, k0⟩ := hE.at (j := 0) oM; obtain ⟨u1, k1⟩ := hE.at (j := 1) oM; obtain ⟨u2, k2⟩ := hE.at (j := 2) oM
         go_simp
         go_wp2_with fail
         refine oK hK ab1 fun hHeld => ?_
         clear hK K
         refine wD ?_
        rotate_left 1
        focus
         go_simp
         go_wp2_with fail
         refine oS hK (S' := (HX _ _ _ _ _ ((w4.heap.size, 3) :: _))) (fun w h => HX.pop h) ab3 fun hHeld => ?_
         clear hK K
         refine wE 16 fun K hK => ?_
         go_simp
         (go_at_call 170; refine (Hfin.out _ (HR.out.below ab0)).mono ?_; rintro e w5 ⟨g5, v5, rfl, hg5, hm5, hb5'⟩; have hb5 : Below _ _ w5 := ab9; have hs5 := hb5.size; (try simp at hs5); (try simp at hg5); have Hm5 : Hid (NewV hs.length g5 vs.length (vs.set t ⟨v5, findF j a.f g.a.f k i⟩) ⟨v5, findF j a.f g.a.f k i⟩ w5) := hide (NewV.of rfl htn hm5); clear hm5; have hgz5 : g5 < w5.heap.size := Hm5.out.lt oM)
         go_wp2_with fail
         refine oK hK ab2 fun hHeld => ?_
         clear hK K
         refine tq2 17 ?_
         refine tq2 18 ?_
         refine tq2 19 ?_
         refine wE 22 fun K hK => ?_
         have hE := hHeld.box (B := (w2.heap.size)) (n := 2) sM; have kf := hE.fz; obtain ⟨u0, k0⟩ := hE.at (j := 0) oM; obtain ⟨u1, k1⟩ := hE.at (j := 1) oM
         go_simp
         go_wp2_with fail
         refine oK hK ab1 fun hHeld => ?_
         clear hK K
         refine wE 23 fun K hK => ?_
         have hE := hHeld.box (B := (w4.heap.size)) (n := 3) sM; have kf := hE.fz; obtain ⟨u0, k0⟩ := hE.at (j := 0) oM; obtain ⟨u1, k1⟩ := hE.at (j := 1) oM; obtain ⟨u2, k2⟩ := hE.at (j := 2) oM
         go_simp
         go_wp2_with fail
         refine oK hK ab1 fun hHeld => ?_
         clear hK K
         refine wD ?_
        rotate_left 1
       rotate_left 2
       focus
        go_simp
        go_wp2_with fail
        refine oS hK (S' := (HX _ _ _ _ _ ((w3.heap.size, 3) :: _))) (fun w h => HX.pop h) ab3 fun hHeld => ?_
        clear hK K
        refine wE 14 fun K hK => ?_
        go_simp
        (with_reducible refine (Hpick.out _ (Hh.out.below ab0)).mono ?_; rintro e w4 ⟨rfl, hb4'⟩; have hb4 : Below _ _ w4 := ab10; have hs4 := hb4.size; (try simp at hs4))
        go_wp2_with fail
        refine oK hK ab2 fun hHeld => ?_
        clear hK K
        refine wE 16 fun K hK => ?_
        go_simp
        (go_at_call 170; refine (Hfin.out _ (HR.out.below ab0)).mono ?_; rintro e w5 ⟨g5, v5, rfl, hg5, hm5, hb5'⟩; have hb5 : Below _ _ w5 := ab9; have hs5 := hb5.size; (try simp at hs5); (try simp at hg5); have Hm5 : Hid (NewV hs.length g5 vs.length (vs.set t ⟨v5, findF j a.f g.a.f k i⟩) ⟨v5, findF j a.f g.a.f k i⟩ w5) := hide (NewV.of rfl htn hm5); clear hm5; have hgz5 : g5 < w5.heap.size := Hm5.out.lt oM)
        go_wp2_with fail
        refine oK hK ab2 fun hHeld => ?_
        clear hK K
        refine tq2 17 ?_
        refine tq2 18 ?_
        refine tq2 19 ?_
        refine wE 22 fun K hK => ?_
        have hE := hHeld.box (B := (w2.heap.size)) (n := 2) sM; have kf := hE.fz; obtain ⟨u0, k0⟩ := hE.at (j := 0) oM; obtain ⟨u1, k1⟩ := hE.at (j := 1) oM
        go_simp
        go_wp2_with fail
        refine oK hK ab1 fun hHeld => ?_
        clear hK K
        refine wE 23 fun K hK => ?_
        have hE := hHeld.box (B := (w3.heap.size)) (n := 3) sM; have kf := hE.fz; obtain ⟨u0, k0⟩ := hE.at (j := 0) oM; obtain ⟨u1, k1⟩ := hE.at (j := 1) oM; obtain ⟨u2, k2⟩ := hE.at (j := 2) oM
        go_simp
        go_wp2_with fail
        refine oK hK ab1 fun hHeld => ?_
        clear hK K
        refine wD ?_
       rotate_left 1
      rotate_left 3
      focus
       go_simp
       go_wp2_with fail
       refine oS hK (S' := (HX _ _ _ _ _ ((w2.heap.size + 1, 3) :: _))) (fun w h => HX.pop h) ab3 fun hHeld => ?_
       clear hK K
       refine wE 13 fun K hK => ?_
       go_simp
       (go_at_call 48; refine (Hat.out _ (HaR.out.below ab0)).mono ?_; rintro e w3 ⟨rfl, hb3'⟩; have hb3 : Below _ _ w3 := ab17; have hs3 := hb3.size; (try simp at hs3))
       go_wp2_with fail
       refine oK hK ab2 fun hHeld => ?_
       clear hK K
       refine wE 14 fun K hK => ?_
       go_simp
       (with_reducible refine (Hpick.out _ (Hh.out.below ab0)).mono ?_; rintro e w4 ⟨rfl, hb4'⟩; have hb4 : Below _ _ w4 := ab10; have hs4 := hb4.size; (try simp at hs4))
       go_wp2_with fail
       refine oK hK ab2 fun hHeld => ?_
       clear hK K
       refine wE 16 fun K hK => ?_
       go_simp
       (go_at_call 170; refine (Hfin.out _ (HR.out.below ab0)).mono ?_; rintro e w5 ⟨g5, v5, rfl, hg5, hm5, hb5'⟩; have hb5 : Below _ _ w5 := ab9; have hs5 := hb5.size; (try simp at hs5); (try simp at hg5); have Hm5 : Hid (NewV hs.length g5 vs.length (vs.set t ⟨v5, findF j a.f g.a.f k i⟩) ⟨v5, findF j a.f g.a.f k i⟩ w5) := hide (NewV.of rfl htn hm5); clear hm5; have hgz5 : g5 < w5.heap.size := Hm5.out.lt oM)
       go_wp2_with fail
       refine oK hK ab2 fun hHeld => ?_
       clear hK K
       refine tq2 17 ?_
       refine tq2 18 ?_
       refine tq2 19 ?_
       refine wE 22 fun K hK => ?_
       have hE := hHeld.box (B := (w2.heap.size)) (n := 2) sM; have kf := hE.fz; obtain ⟨u0, k0⟩ := hE.at (j := 0) oM; obtain ⟨u1, k1⟩ := hE.at (j := 1) oM
       go_simp
       go_wp2_with fail
       refine oK hK ab1 fun hHeld => ?_
       clear hK K
       refine wE 23 fun K hK => ?_
       have hE := hHeld.box (B := (w2.heap.size + 1)) (n := 3) sM; have kf := hE.fz; obtain ⟨u0, k0⟩ := hE.at (j := 0) oM; obtain ⟨u1, k1⟩ := hE.at (j := 1) oM; obtain ⟨u2, k2⟩ := hE.at (j := 2) oM
       go_simp
       go_wp2_with fail
       refine oK hK ab1 fun hHeld => ?_
       clear hK K
       refine wD ?_
      rotate_left 1
     rotate_left 4
     focus
      go_simp
      go_wp2_with fail
      refine oS hK (S' := (HX _ _ _ _ _ ((w2.heap.size, 3) :: _))) (fun w h => HX.pop h) ab3 fun hHeld => ?_
      clear hK K
      refine wR (rs := [13, 20]) ?_
      refine aI (fun K hK => ?_) (aE fun K hK => ?_)
      focus
       go_simp
       (go_at_call 48; refine (Hat.out _ (HaR.out.below ab0)).mono ?_; rintro e w3 ⟨rfl, hb3'⟩; have hb3 : Below _ _ w3 := ab17; have hs3 := hb3.size; (try simp at hs3))
       go_wp2_with fail
       refine oK hK ab2 fun hHeld => ?_
       clear hK K
       refine wR (rs := [14, 20]) ?_
       refine aI (fun K hK => ?_) (aE fun K hK => ?_)
       focus
        go_simp
        (with_reducible refine (Hpick.out _ (Hh.out.below ab0)).mono ?_; rintro e w4 ⟨rfl, hb4'⟩; have hb4 : Below _ _ w4 := ab10; have hs4 := hb4.size; (try simp at hs4))
        go_wp2_with fail
        refine oK hK ab2 fun hHeld => ?_
        clear hK K
        refine wR (rs := [16, 20]) ?_
        refine aI (fun K hK => ?_) (aE fun K hK => ?_)
        focus
         go_simp
         (go_at_call 170; refine (Hfin.out _ (HR.out.below ab0)).mono ?_; rintro e w5 ⟨g5, v5, rfl, hg5, hm5, hb5'⟩; have hb5 : Below _ _ w5 := ab9; have hs5 := hb5.size; (try simp at hs5); (try simp at hg5); have Hm5 : Hid (NewV hs.length g5 vs.length (vs.set t ⟨v5, findF j a.f g.a.f k i⟩) ⟨v5, findF j a.f g.a.f k i⟩ w5) := hide (NewV.of rfl htn hm5); clear hm5; have hgz5 : g5 < w5.heap.size := Hm5.out.lt oM)
         go_wp2_with fail
         refine oK hK ab2 fun hHeld => ?_
         clear hK K
         refine tq2 17 ?_
         refine tq2 18 ?_
         refine tq2 19 ?_
         refine wE 20 fun K hK => ?_
         go_simp
         go_wp2_with fail
         refine oS hK (S' := (HX _ _ _ _ _ ((w5.heap.size, 2) :: _))) (fun w h => HX.pop h) ab3 fun hHeld => ?_
         clear hK K
         refine wE 22 fun K hK => ?_
         have hE := hHeld.box (B := (w5.heap.size)) (n := 2) sM; have kf := hE.fz; obtain ⟨u0, k0⟩ := hE.at (j := 0) oM; obtain ⟨u1, k1⟩ := hE.at (j := 1) oM
         go_simp
         go_wp2_with fail
         refine oK hK ab1 fun hHeld => ?_
         clear hK K
         refine wE 23 fun K hK => ?_
         have hE := hHeld.box (B := (w2.heap.size)) (n := 3) sM; have kf := hE.fz; obtain ⟨u0, k0⟩ := hE.at (j := 0) oM; obtain ⟨u1, k1⟩ := hE.at (j := 1) oM; obtain ⟨u2, k2⟩ := hE.at (j := 2) oM
         go_simp
         go_wp2_with fail
         refine oK hK ab1 fun hHeld => ?_
         clear hK K
         refine wD ?_
        rotate_left 1
        focus
         go_simp
         go_wp2_with fail
         refine oS hK (S' := (HX _ _ _ _ _ ((w4.heap.size, 2) :: _))) (fun w h => HX.pop h) ab3 fun hHeld => ?_
         clear hK K
         refine wE 16 fun K hK => ?_
         go_simp
         (go_at_call 170; refine (Hfin.out _ (HR.out.below ab0)).mono ?_; rintro e w5 ⟨g5, v5, rfl, hg5, hm5, hb5'⟩; have hb5 : Below _ _ w5 := ab9; have hs5 := hb5.size; (try simp at hs5); (try simp at hg5); have Hm5 : Hid (NewV hs.length g5 vs.length (vs.set t ⟨v5, findF j a.f g.a.f k i⟩) ⟨v5, findF j a.f g.a.f k i⟩ w5) := hide (NewV.of rfl htn hm5); clear hm5; have hgz5 : g5 < w5.heap.size := Hm5.out.lt oM)
         go_wp2_with fail
         refine oK hK ab2 fun hHeld => ?_
         clear hK K
         refine tq2 17 ?_
         refine tq2 18 ?_
         refine tq2 19 ?_
         refine wE 22 fun K hK => ?_
         have hE := hHeld.box (B := (w4.heap.size)) (n := 2) sM; have kf := hE.fz; obtain ⟨u0, k0⟩ := hE.at (j := 0) oM; obtain ⟨u1, k1⟩ := hE.at (j := 1) oM
         go_simp
         go_wp2_with fail
         refine oK hK ab1 fun hHeld => ?_
         clear hK K
         refine wE 23 fun K hK => ?_
         have hE := hHeld.box (B := (w2.heap.size)) (n := 3) sM; have kf := hE.fz; obtain ⟨u0, k0⟩ := hE.at (j := 0) oM; obtain ⟨u1, k1⟩ := hE.at (j := 1) oM; obtain ⟨u2, k2⟩ := hE.at (j := 2) oM
         go_simp
         go_wp2_with fail
         refine oK hK ab1 fun hHeld => ?_
         clear hK K
         refine wD ?_
        rotate_left 1
       rotate_left 2
       focus
        go_simp
        go_wp2_with fail
        refine oS hK (S' := (HX _ _ _ _ _ ((w3.heap.size, 2) :: _))) (fun w h => HX.pop h) ab3 fun hHeld => ?_
        clear hK K
        refine wE 14 fun K hK => ?_
        go_simp
        (with_reducible refine (Hpick.out _ (Hh.out.below ab0)).mono ?_; rintro e w4 ⟨rfl, hb4'⟩; have hb4 : Below _ _ w4 := ab10; have hs4 := hb4.size; (try simp at hs4))
        go_wp2_with fail
        refine oK hK ab2 fun hHeld => ?_
        clear hK K
        refine wE 16 fun K hK => ?_
        go_simp
        (go_at_call 170; refine (Hfin.out _ (HR.out.below ab0)).mono ?_; rintro e w5 ⟨g5, v5, rfl, hg5, hm5, hb5'⟩; have hb5 : Below _ _ w5 := ab9; have hs5 := hb5.size; (try simp at hs5); (try simp at hg5); have Hm5 : Hid (NewV hs.length g5 vs.length (vs.set t ⟨v5, findF j a.f g.a.f k i⟩) ⟨v5, findF j a.f g.a.f k i⟩ w5) := hide (NewV.of rfl htn hm5); clear hm5; have hgz5 : g5 < w5.heap.size := Hm5.out.lt oM)
        go_wp2_with fail
        refine oK hK ab2 fun hHeld => ?_
        clear hK K
        refine tq2 17 ?_
        refine tq2 18 ?_
        refine tq2 19 ?_
        refine wE 22 fun K hK => ?_
        have hE := hHeld.box (B := (w3.heap.size)) (n := 2) sM; have kf := hE.fz; obtain ⟨u0, k0⟩ := hE.at (j := 0) oM; obtain ⟨u1, k1⟩ := hE.at (j := 1) oM
        go_simp
        go_wp2_with fail
        refine oK hK ab1 fun hHeld => ?_
        clear hK K
        refine wE 23 fun K hK => ?_
        have hE := hHeld.box (B := (w2.heap.size)) (n := 3) sM; have kf := hE.fz; obtain ⟨u0, k0⟩ := hE.at (j := 0) oM; obtain ⟨u1, k1⟩ := hE.at (j := 1) oM; obtain ⟨u2, k2⟩ := hE.at (j := 2) oM
        go_simp
        go_wp2_with fail
        refine oK hK ab1 fun hHeld => ?_
        clear hK K
        refine wD ?_
       rotate_left 1
      rotate_left 3
      focus
       go_simp
       go_wp2_with fail
       refine oS hK (S' := (HX _ _ _ _ _ ((w2.heap.size + 1, 2) :: _))) (fun w h => HX.pop h) ab3 fun hHeld => ?_
       clear hK K
       refine wE 13 fun K hK => ?_
       go_simp
       (go_at_call 48; refine (Hat.out _ (HaR.out.below ab0)).mono ?_; rintro e w3 ⟨rfl, hb3'⟩; have hb3 : Below _ _ w3 := ab17; have hs3 := hb3.size; (try simp at hs3))
       go_wp2_with fail
       refine oK hK ab2 fun hHeld => ?_
       clear hK K
       refine wE 14 fun K hK => ?_
       go_simp
       (with_reducible refine (Hpick.out _ (Hh.out.below ab0)).mono ?_; rintro e w4 ⟨rfl, hb4'⟩; have hb4 : Below _ _ w4 := ab10; have hs4 := hb4.size; (try simp at hs4))
       go_wp2_with fail
       refine oK hK ab2 fun hHeld => ?_
       clear hK K
       refine wE 16 fun K hK => ?_
       go_simp
       (go_at_call 170; refine (Hfin.out _ (HR.out.below ab0)).mono ?_; rintro e w5 ⟨g5, v5, rfl, hg5, hm5, hb5'⟩; have hb5 : Below _ _ w5 := ab9; have hs5 := hb5.size; (try simp at hs5); (try simp at hg5); have Hm5 : Hid (NewV hs.length g5 vs.length (vs.set t ⟨v5, findF j a.f g.a.f k i⟩) ⟨v5, findF j a.f g.a.f k i⟩ w5) := hide (NewV.of rfl htn hm5); clear hm5; have hgz5 : g5 < w5.heap.size := Hm5.out.lt oM)
       go_wp2_with fail
       refine oK hK ab2 fun hHeld => ?_
       clear hK K
       refine tq2 17 ?_
       refine tq2 18 ?_
       refine tq2 19 ?_
       refine wE 22 fun K hK => ?_
       have hE := hHeld.box (B := (w2.heap.size + 1)) (n := 2) sM; have kf := hE.fz; obtain ⟨u0, k0⟩ := hE.at (j := 0) oM; obtain ⟨u1, k1⟩ := hE.at (j := 1) oM
       go_simp
       go_wp2_with fail
       refine oK hK ab1 fun hHeld => ?_
       clear hK K
       refine wE 23 fun K hK => ?_
       have hE := hHeld.box (B := (w2.heap.size)) (n := 3) sM; have kf := hE.fz; obtain ⟨u0, k0⟩ := hE.at (j := 0) oM; obtain ⟨u1, k1⟩ := hE.at (j := 1) oM; obtain ⟨u2, k2⟩ := hE.at (j := 2) oM
       go_simp
       go_wp2_with fail
       refine oK hK ab1 fun hHeld => ?_
       clear hK K
       refine wD ?_
      rotate_left 1
     rotate_left 4
    rotate_left 20
    focus
     go_simp
     go_wp2_with fail
     refine oS hK (S' := (HX _ _ _ _ _ ((w1.heap.size, 2) :: _))) (fun w h => HX.pop h) ab3 fun hHeld => ?_
     clear hK K
     refine wR (rs := [11, 21]) ?_
     refine aI (fun K hK => ?_) (aE fun K hK => ?_)
     focus
      go_simp
      (go_at_call 47; refine (Hseen.out _ (HR.out.below ab0)).mono ?_; rintro e w2 ⟨rfl, hb2'⟩; have hb2 : Below _ _ w2 := ab15; have hs2 := hb2.size; (try simp at hs2))
      go_wp2_with fail
      refine oK hK ab2 fun hHeld => ?_
      clear hK K
      refine wR (rs := [13, 21]) ?_
      refine aI (fun K hK => ?_) (aE fun K hK => ?_)
      focus
       go_simp
       (go_at_call 48; refine (Hat.out _ (HaR.out.below ab0)).mono ?_; rintro e w3 ⟨rfl, hb3'⟩; have hb3 : Below _ _ w3 := ab17; have hs3 := hb3.size; (try simp at hs3))
       go_wp2_with fail
       refine oK hK ab2 fun hHeld => ?_
       clear hK K
       refine wR (rs := [14, 21]) ?_
       refine aI (fun K hK => ?_) (aE fun K hK => ?_)
       focus
        go_simp
        (with_reducible refine (Hpick.out _ (Hh.out.below ab0)).mono ?_; rintro e w4 ⟨rfl, hb4'⟩; have hb4 : Below _ _ w4 := ab10; have hs4 := hb4.size; (try simp at hs4))
        go_wp2_with fail
        refine oK hK ab2 fun hHeld => ?_
        clear hK K
        refine wR (rs := [16, 21]) ?_
        refine aI (fun K hK => ?_) (aE fun K hK => ?_)
        focus
         go_simp
         (go_at_call 170; refine (Hfin.out _ (HR.out.below ab0)).mono ?_; rintro e w5 ⟨g5, v5, rfl, hg5, hm5, hb5'⟩; have hb5 : Below _ _ w5 := ab9; have hs5 := hb5.size; (try simp at hs5); (try simp at hg5); have Hm5 : Hid (NewV hs.length g5 vs.length (vs.set t ⟨v5, findF j a.f g.a.f k i⟩) ⟨v5, findF j a.f g.a.f k i⟩ w5) := hide (NewV.of rfl htn hm5); clear hm5; have hgz5 : g5 < w5.heap.size := Hm5.out.lt oM)
         go_wp2_with fail
         refine oK hK ab2 fun hHeld => ?_
         clear hK K
         refine tq2 17 ?_
         refine tq2 18 ?_
         refine tq2 19 ?_
         refine wE 21 fun K hK => ?_
         go_simp
         go_wp2_with fail
         refine oS hK (S' := (HX _ _ _ _ _ ((w5.heap.size, 3) :: _))) (fun w h => HX.pop h) ab3 fun hHeld => ?_
         clear hK K
         refine wE 22 fun K hK => ?_
         have hE := hHeld.box (B := (w1.heap.size)) (n := 2) sM; have kf := hE.fz; obtain ⟨u0, k0⟩ := hE.at (j := 0) oM; obtain ⟨u1, k1⟩ := hE.at (j := 1) oM
         go_simp
         go_wp2_with fail
         refine oK hK ab1 fun hHeld => ?_
         clear hK K
         refine wE 23 fun K hK => ?_
         have hE := hHeld.box (B := (w5.heap.size)) (n := 3) sM; have kf := hE.fz; obtain ⟨u0, k0⟩ := hE.at (j := 0) oM; obtain ⟨u1, k1⟩ := hE.at (j := 1) oM; obtain ⟨u2, k2⟩ := hE.at (j := 2) oM
         go_simp
         go_wp2_with fail
         refine oK hK ab1 fun hHeld => ?_
         clear hK K
         refine wD ?_
        rotate_left 1
        focus
         go_simp
         go_wp2_with fail
         refine oS hK (S' := (HX _ _ _ _ _ ((w4.heap.size, 3) :: _))) (fun w h => HX.pop h) ab3 fun hHeld => ?_
         clear hK K
         refine wE 16 fun K hK => ?_
         go_simp
         (go_at_call 170; refine (Hfin.out _ (HR.out.below ab0)).mono ?_; rintro e w5 ⟨g5, v5, rfl, hg5, hm5, hb5'⟩; have hb5 : Below _ _ w5 := ab9; have hs5 := hb5.size; (try simp at hs5); (try simp at hg5); have Hm5 : Hid (NewV hs.length g5 vs.length (vs.set t ⟨v5, findF j a.f g.a.f k i⟩) ⟨v5, findF j a.f g.a.f k i⟩ w5) := hide (NewV.of rfl htn hm5); clear hm5; have hgz5 : g5 < w5.heap.size := Hm5.out.lt oM)
         go_wp2_with fail
         refine oK hK ab2 fun hHeld => ?_
         clear hK K
         refine tq2 17 ?_
         refine tq2 18 ?_
         refine tq2 19 ?_
         refine wE 22 fun K hK => ?_
         have hE := hHeld.box (B := (w1.heap.size)) (n := 2) sM; have kf := hE.fz; obtain ⟨u0, k0⟩ := hE.at (j := 0) oM; obtain ⟨u1, k1⟩ := hE.at (j := 1) oM
         go_simp
         go_wp2_with fail
         refine oK hK ab1 fun hHeld => ?_
         clear hK K
         refine wE 23 fun K hK => ?_
         have hE := hHeld.box (B := (w4.heap.size)) (n := 3) sM; have kf := hE.fz; obtain ⟨u0, k0⟩ := hE.at (j := 0) oM; obtain ⟨u1, k1⟩ := hE.at (j := 1) oM; obtain ⟨u2, k2⟩ := hE.at (j := 2) oM
         go_simp
         go_wp2_with fail
         refine oK hK ab1 fun hHeld => ?_
         clear hK K
         refine wD ?_
        rotate_left 1
       rotate_left 2
       focus
        go_simp
        go_wp2_with fail
        refine oS hK (S' := (HX _ _ _ _ _ ((w3.heap.size, 3) :: _))) (fun w h => HX.pop h) ab3 fun hHeld => ?_
        clear hK K
        refine wE 14 fun K hK => ?_
        go_simp
        (with_reducible refine (Hpick.out _ (Hh.out.below ab0)).mono ?_; rintro e w4 ⟨rfl, hb4'⟩; have hb4 : Below _ _ w4 := ab10; have hs4 := hb4.size; (try simp at hs4))
        go_wp2_with fail
        refine oK hK ab2 fun hHeld => ?_
        clear hK K
        refine wE 16 fun K hK => ?_
        go_simp
        (go_at_call 170; refine (Hfin.out _ (HR.out.below ab0)).mono ?_; rintro e w5 ⟨g5, v5, rfl, hg5, hm5, hb5'⟩; have hb5 : Below _ _ w5 := ab9; have hs5 := hb5.size; (try simp at hs5); (try simp at hg5); have Hm5 : Hid (NewV hs.length g5 vs.length (vs.set t ⟨v5, findF j a.f g.a.f k i⟩) ⟨v5, findF j a.f g.a.f k i⟩ w5) := hide (NewV.of rfl htn hm5); clear hm5; have hgz5 : g5 < w5.heap.size := Hm5.out.lt oM)
        go_wp2_with fail
        refine oK hK ab2 fun hHeld => ?_
        clear hK K
        refine tq2 17 ?_
        refine tq2 18 ?_
        refine tq2 19 ?_
        refine wE 22 fun K hK => ?_
        have hE := hHeld.box (B := (w1.heap.size)) (n := 2) sM; have kf := hE.fz; obtain ⟨u0, k0⟩ := hE.at (j := 0) oM; obtain ⟨u1, k1⟩ := hE.at (j := 1) oM
        go_simp
        go_wp2_with fail
        refine oK hK ab1 fun hHeld => ?_
        clear hK K
        refine wE 23 fun K hK => ?_
        have hE := hHeld.box (B := (w3.heap.size)) (n := 3) sM; have kf := hE.fz; obtain ⟨u0, k0⟩ := hE.at (j := 0) oM; obtain ⟨u1, k1⟩ := hE.at (j := 1) oM; obtain ⟨u2, k2⟩ := hE.at (j := 2) oM
        go_simp
        go_wp2_with fail
        refine oK hK ab1 fun hHeld => ?_
        clear hK K
        refine wD ?_
       rotate_left 1
      rotate_left 3
      focus
       go_simp
       go_wp2_with fail
       refine oS hK (S' := (HX _ _ _ _ _ ((w2.heap.size, 3) :: _))) (fun w h => HX.pop h) ab3 fun hHeld => ?_
       clear hK K
       refine wE 13 fun K hK => ?_
       go_simp
       (go_at_call 48; refine (Hat.out _ (HaR.out.below ab0)).mono ?_; rintro e w3 ⟨rfl, hb3'⟩; have hb3 : Below _ _ w3 := ab17; have hs3 := hb3.size; (try simp at hs3))
       go_wp2_with fail
       refine oK hK ab2 fun hHeld => ?_
       clear hK K
       refine wE 14 fun K hK => ?_
       go_simp
       (with_reducible refine (Hpick.out _ (Hh.out.below ab0)).mono ?_; rintro e w4 ⟨rfl, hb4'⟩; have hb4 : Below _ _ w4 := ab10; have hs4 := hb4.size; (try simp at hs4))
       go_wp2_with fail
       refine oK hK ab2 fun hHeld => ?_
       clear hK K
       refine wE 16 fun K hK => ?_
       go_simp
       (go_at_call 170; refine (Hfin.out _ (HR.out.below ab0)).mono ?_; rintro e w5 ⟨g5, v5, rfl, hg5, hm5, hb5'⟩; have hb5 : Below _ _ w5 := ab9; have hs5 := hb5.size; (try simp at hs5); (try simp at hg5); have Hm5 : Hid (NewV hs.length g5 vs.length (vs.set t ⟨v5, findF j a.f g.a.f k i⟩) ⟨v5, findF j a.f g.a.f k i⟩ w5) := hide (NewV.of rfl htn hm5); clear hm5; have hgz5 : g5 < w5.heap.size := Hm5.out.lt oM)
       go_wp2_with fail
       refine oK hK ab2 fun hHeld => ?_
       clear hK K
       refine tq2 17 ?_
       refine tq2 18 ?_
       refine tq2 19 ?_
       refine wE 22 fun K hK => ?_
       have hE := hHeld.box (B := (w1.heap.size)) (n := 2) sM; have kf := hE.fz; obtain ⟨u0, k0⟩ := hE.at (j := 0) oM; obtain ⟨u1, k1⟩ := hE.at (j := 1) oM
       go_simp
       go_wp2_with fail
       refine oK hK ab1 fun hHeld => ?_
       clear hK K
       refine wE 23 fun K hK => ?_
       have hE := hHeld.box (B := (w2.heap.size)) (n := 3) sM; have kf := hE.fz; obtain ⟨u0, k0⟩ := hE.at (j := 0) oM; obtain ⟨u1, k1⟩ := hE.at (j := 1) oM; obtain ⟨u2, k2⟩ := hE.at (j := 2) oM
       go_simp
       go_wp2_with fail
       refine oK hK ab1 fun hHeld => ?_
       clear hK K
       refine wD ?_
      rotate_left 1
     rotate_left 4
     focus
      go_simp
      go_wp2_with fail
      refine oS hK (S' := (HX _ _ _ _ _ ((w1.heap.size + 1, 3) :: _))) (fun w h => HX.pop h) ab3 fun hHeld => ?_
      clear hK K
      refine wE 11 fun K hK => ?_
      go_simp
      (go_at_call 47; refine (Hseen.out _ (HR.out.below ab0)).mono ?_; rintro e w2 ⟨rfl, hb2'⟩; have hb2 : Below _ _ w2 := ab15; have hs2 := hb2.size; (try simp at hs2))
      go_wp2_with fail
      refine oK hK ab2 fun hHeld => ?_
      clear hK K
      refine wE 13 fun K hK => ?_
      go_simp
      (go_at_call 48; refine (Hat.out _ (HaR.out.below ab0)).mono ?_; rintro e w3 ⟨rfl, hb3'⟩; have hb3 : Below _ _ w3 := ab17; have hs3 := hb3.size; (try simp at hs3))
      go_wp2_with fail
      refine oK hK ab2 fun hHeld => ?_
      clear hK K
      refine wE 14 fun K hK => ?_
      go_simp
      (with_reducible refine (Hpick.out _ (Hh.out.below ab0)).mono ?_; rintro e w4 ⟨rfl, hb4'⟩; have hb4 : Below _ _ w4 := ab10; have hs4 := hb4.size; (try simp at hs4))
      go_wp2_with fail
      refine oK hK ab2 fun hHeld => ?_
      clear hK K
      refine wE 16 fun K hK => ?_
      go_simp
      (go_at_call 170; refine (Hfin.out _ (HR.out.below ab0)).mono ?_; rintro e w5 ⟨g5, v5, rfl, hg5, hm5, hb5'⟩; have hb5 : Below _ _ w5 := ab9; have hs5 := hb5.size; (try simp at hs5); (try simp at hg5); have Hm5 : Hid (NewV hs.length g5 vs.length (vs.set t ⟨v5, findF j a.f g.a.f k i⟩) ⟨v5, findF j a.f g.a.f k i⟩ w5) := hide (NewV.of rfl htn hm5); clear hm5; have hgz5 : g5 < w5.heap.size := Hm5.out.lt oM)
      go_wp2_with fail
      refine oK hK ab2 fun hHeld => ?_
      clear hK K
      refine tq2 17 ?_
      refine tq2 18 ?_
      refine tq2 19 ?_
      refine wE 22 fun K hK => ?_
      have hE := hHeld.box (B := (w1.heap.size)) (n := 2) sM; have kf := hE.fz; obtain ⟨u0, k0⟩ := hE.at (j := 0) oM; obtain ⟨u1, k1⟩ := hE.at (j := 1) oM
      go_simp
      go_wp2_with fail
      refine oK hK ab1 fun hHeld => ?_
      clear hK K
      refine wE 23 fun K hK => ?_
      have hE := hHeld.box (B := (w1.heap.size + 1)) (n := 3) sM; have kf := hE.fz; obtain ⟨u0, k0⟩ := hE.at (j := 0) oM; obtain ⟨u1, k1⟩ := hE.at (j := 1) oM; obtain ⟨u2, k2⟩ := hE.at (j := 2) oM
      go_simp
      go_wp2_with fail
      refine oK hK ab1 fun hHeld => ?_
      clear hK K
      refine wD ?_
     rotate_left 1
    rotate_left 5
    focus
     go_simp
     go_wp2_with fail
     refine oS hK (S' := (HX _ _ _ _ _ ((w1.heap.size, 3) :: _))) (fun w h => HX.pop h) ab3 fun hHeld => ?_
     clear hK K
     refine wR (rs := [11, 20]) ?_
     refine aI (fun K hK => ?_) (aE fun K hK => ?_)
     focus
      go_simp
      (go_at_call 47; refine (Hseen.out _ (HR.out.below ab0)).mono ?_; rintro e w2 ⟨rfl, hb2'⟩; have hb2 : Below _ _ w2 := ab15; have hs2 := hb2.size; (try simp at hs2))
      go_wp2_with fail
      refine oK hK ab2 fun hHeld => ?_
      clear hK K
      refine wR (rs := [13, 20]) ?_
      refine aI (fun K hK => ?_) (aE fun K hK => ?_)
      focus
       go_simp
       (go_at_call 48; refine (Hat.out _ (HaR.out.below ab0)).mono ?_; rintro e w3 ⟨rfl, hb3'⟩; have hb3 : Below _ _ w3 := ab17; have hs3 := hb3.size; (try simp at hs3))
       go_wp2_with fail
       refine oK hK ab2 fun hHeld => ?_
       clear hK K
       refine wR (rs := [14, 20]) ?_
       refine aI (fun K hK => ?_) (aE fun K hK => ?_)
       focus
        go_simp
        (with_reducible refine (Hpick.out _ (Hh.out.below ab0)).mono ?_; rintro e w4 ⟨rfl, hb4'⟩; have hb4 : Below _ _ w4 := ab10; have hs4 := hb4.size; (try simp at hs4))
        go_wp2_with fail
        refine oK hK ab2 fun hHeld => ?_
        clear hK K
        refine wR (rs := [16, 20]) ?_
        refine aI (fun K hK => ?_) (aE fun K hK => ?_)
        focus
         go_simp
         (go_at_call 170; refine (Hfin.out _ (HR.out.below ab0)).mono ?_; rintro e w5 ⟨g5, v5, rfl, hg5, hm5, hb5'⟩; have hb5 : Below _ _ w5 := ab9; have hs5 := hb5.size; (try simp at hs5); (try simp at hg5); have Hm5 : Hid (NewV hs.length g5 vs.length (vs.set t ⟨v5, findF j a.f g.a.f k i⟩) ⟨v5, findF j a.f g.a.f k i⟩ w5) := hide (NewV.of rfl htn hm5); clear hm5; have hgz5 : g5 < w5.heap.size := Hm5.out.lt oM)
         go_wp2_with fail
         refine oK hK ab2 fun hHeld => ?_
         clear hK K
         refine tq2 17 ?_
         refine tq2 18 ?_
         refine tq2 19 ?_
         refine wE 20 fun K hK => ?_
         go_simp
         go_wp2_with fail
         refine oS hK (S' := (HX _ _ _ _ _ ((w5.heap.size, 2) :: _))) (fun w h => HX.pop h) ab3 fun hHeld => ?_
         clear hK K
         refine wE 22 fun K hK => ?_
         have hE := hHeld.box (B := (w5.heap.size)) (n := 2) sM; have kf := hE.fz; obtain ⟨u0, k0⟩ := hE.at (j := 0) oM; obtain ⟨u1, k1⟩ := hE.at (j := 1) oM
         go_simp
         go_wp2_with fail
         refine oK hK ab1 fun hHeld => ?_
         clear hK K
         refine wE 23 fun K hK => ?_
         have hE := hHeld.box (B := (w1.heap.size)) (n := 3) sM; have kf := hE.fz; obtain ⟨u0, k0⟩ := hE.at (j := 0) oM; obtain ⟨u1, k1⟩ := hE.at (j := 1) oM; obtain ⟨u2, k2⟩ := hE.at (j := 2) oM
         go_simp
         go_wp2_with fail
         refine oK hK ab1 fun hHeld => ?_
         clear hK K
         refine wD ?_
        rotate_left 1
        focus
         go_simp
         go_wp2_with fail
         refine oS hK (S' := (HX _ _ _ _ _ ((w4.heap.size, 2) :: _))) (fun w h => HX.pop h) ab3 fun hHeld => ?_
         clear hK K
         refine wE 16 fun K hK => ?_
         go_simp
         (go_at_call 170; refine (Hfin.out _ (HR.out.below ab0)).mono ?_; rintro e w5 ⟨g5, v5, rfl, hg5, hm5, hb5'⟩; have hb5 : Below _ _ w5 := ab9; have hs5 := hb5.size; (try simp at hs5); (try simp at hg5); have Hm5 : Hid (NewV hs.length g5 vs.length (vs.set t ⟨v5, findF j a.f g.a.f k i⟩) ⟨v5, findF j a.f g.a.f k i⟩ w5) := hide (NewV.of rfl htn hm5); clear hm5; have hgz5 : g5 < w5.heap.size := Hm5.out.lt oM)
         go_wp2_with fail
         refine oK hK ab2 fun hHeld => ?_
         clear hK K
         refine tq2 17 ?_
         refine tq2 18 ?_
         refine tq2 19 ?_
         refine wE 22 fun K hK => ?_
         have hE := hHeld.box (B := (w4.heap.size)) (n := 2) sM; have kf := hE.fz; obtain ⟨u0, k0⟩ := hE.at (j := 0) oM; obtain ⟨u1, k1⟩ := hE.at (j := 1) oM
         go_simp
         go_wp2_with fail
         refine oK hK ab1 fun hHeld => ?_
         clear hK K
         refine wE 23 fun K hK => ?_
         have hE := hHeld.box (B := (w1.heap.size)) (n := 3) sM; have kf := hE.fz; obtain ⟨u0, k0⟩ := hE.at (j := 0) oM; obtain ⟨u1, k1⟩ := hE.at (j := 1) oM; obtain ⟨u2, k2⟩ := hE.at (j := 2) oM
         go_simp
         go_wp2_with fail
         refine oK hK ab1 fun hHeld => ?_
         clear hK K
         refine wD ?_
        rotate_left 1
       rotate_left 2
       focus
        go_simp
        go_wp2_with fail
        refine oS hK (S' := (HX _ _ _ _ _ ((w3.heap.size, 2) :: _))) (fun w h => HX.pop h) ab3 fun hHeld => ?_
        clear hK K
        refine wE 14 fun K hK => ?_
        go_simp
        (with_reducible refine (Hpick.out _ (Hh.out.below ab0)).mono ?_; rintro e w4 ⟨rfl, hb4'⟩; have hb4 : Below _ _ w4 := ab10; have hs4 := hb4.size; (try simp at hs4))
        go_wp2_with fail
        refine oK hK ab2 fun hHeld => ?_
        clear hK K
        refine wE 16 fun K hK => ?_
        go_simp
        (go_at_call 170; refine (Hfin.out _ (HR.out.below ab0)).mono ?_; rintro e w5 ⟨g5, v5, rfl, hg5, hm5, hb5'⟩; have hb5 : Below _ _ w5 := ab9; have hs5 := hb5.size; (try simp at hs5); (try simp at hg5); have Hm5 : Hid (NewV hs.length g5 vs.length (vs.set t ⟨v5, findF j a.f g.a.f k i⟩) ⟨v5, findF j a.f g.a.f k i⟩ w5) := hide (NewV.of rfl htn hm5); clear hm5; have hgz5 : g5 < w5.heap.size := Hm5.out.lt oM)
        go_wp2_with fail
        refine oK hK ab2 fun hHeld => ?_
        clear hK K
        refine tq2 17 ?_
        refine tq2 18 ?_
        refine tq2 19 ?_
        refine wE 22 fun K hK => ?_
        have hE := hHeld.box (B := (w3.heap.size)) (n := 2) sM; have kf := hE.fz; obtain ⟨u0, k0⟩ := hE.at (j := 0) oM; obtain ⟨u1, k1⟩ := hE.at (j := 1) oM
        go_simp
        go_wp2_with fail
        refine oK hK ab1 fun hHeld => ?_
        clear hK K
        refine wE 23 fun K hK => ?_
        have hE := hHeld.box (B := (w1.heap.size)) (n := 3) sM; have kf := hE.fz; obtain ⟨u0, k0⟩ := hE.at (j := 0) oM; obtain ⟨u1, k1⟩ := hE.at (j := 1) oM; obtain ⟨u2, k2⟩ := hE.at (j := 2) oM
        go_simp
        go_wp2_with fail
        refine oK hK ab1 fun hHeld => ?_
        clear hK K
        refine wD ?_
       rotate_left 1
      rotate_left 3
      focus
       go_simp
       go_wp2_with fail
       refine oS hK (S' := (HX _ _ _ _ _ ((w2.heap.size, 2) :: _))) (fun w h => HX.pop h) ab3 fun hHeld => ?_
       clear hK K
       refine wE 13 fun K hK => ?_
       go_simp
       (go_at_call 48; refine (Hat.out _ (HaR.out.below ab0)).mono ?_; rintro e w3 ⟨rfl, hb3'⟩; have hb3 : Below _ _ w3 := ab17; have hs3 := hb3.size; (try simp at hs3))
       go_wp2_with fail
       refine oK hK ab2 fun hHeld => ?_
       clear hK K
       refine wE 14 fun K hK => ?_
       go_simp
       (with_reducible refine (Hpick.out _ (Hh.out.below ab0)).mono ?_; rintro e w4 ⟨rfl, hb4'⟩; have hb4 : Below _ _ w4 := ab10; have hs4 := hb4.size; (try simp at hs4))
       go_wp2_with fail
       refine oK hK ab2 fun hHeld => ?_
       clear hK K
       refine wE 16 fun K hK => ?_
       go_simp
       (go_at_call 170; refine (Hfin.out _ (HR.out.below ab0)).mono ?_; rintro e w5 ⟨g5, v5, rfl, hg5, hm5, hb5'⟩; have hb5 : Below _ _ w5 := ab9; have hs5 := hb5.size; (try simp at hs5); (try simp at hg5); have Hm5 : Hid (NewV hs.length g5 vs.length (vs.set t ⟨v5, findF j a.f g.a.f k i⟩) ⟨v5, findF j a.f g.a.f k i⟩ w5) := hide (NewV.of rfl htn hm5); clear hm5; have hgz5 : g5 < w5.heap.size := Hm5.out.lt oM)
       go_wp2_with fail
       refine oK hK ab2 fun hHeld => ?_
       clear hK K
       refine tq2 17 ?_
       refine tq2 18 ?_
       refine tq2 19 ?_
       refine wE 22 fun K hK => ?_
       have hE := hHeld.box (B := (w2.heap.size)) (n := 2) sM; have kf := hE.fz; obtain ⟨u0, k0⟩ := hE.at (j := 0) oM; obtain ⟨u1, k1⟩ := hE.at (j := 1) oM
       go_simp
       go_wp2_with fail
       refine oK hK ab1 fun hHeld => ?_
       clear hK K
       refine wE 23 fun K hK => ?_
       have hE := hHeld.box (B := (w1.heap.size)) (n := 3) sM; have kf := hE.fz; obtain ⟨u0, k0⟩ := hE.at (j := 0) oM; obtain ⟨u1, k1⟩ := hE.at (j := 1) oM; obtain ⟨u2, k2⟩ := hE.at (j := 2) oM
       go_simp
       go_wp2_with fail
       refine oK hK ab1 fun hHeld => ?_
       clear hK K
       refine wD ?_
      rotate_left 1
     rotate_left 4
     focus
      go_simp
      go_wp2_with fail
      refine oS hK (S' := (HX _ _ _ _ _ ((w1.heap.size + 1, 2) :: _))) (fun w h => HX.pop h) ab3 fun hHeld => ?_
      clear hK K
      refine wE 11 fun K hK => ?_
      go_simp
      (go_at_call 47; refine (Hseen.out _ (HR.out.below ab0)).mono ?_; rintro e w2 ⟨rfl, hb2'⟩; have hb2 : Below _ _ w2 := ab15; have hs2 := hb2.size; (try simp at hs2))
      go_wp2_with fail
      refine oK hK ab2 fun hHeld => ?_
      clear hK K
      refine wE 13 fun K hK => ?_
      go_simp
      (go_at_call 48; refine (Hat.out _ (HaR.out.below ab0)).mono ?_; rintro e w3 ⟨rfl, hb3'⟩; have hb3 : Below _ _ w3 := ab17; have hs3 := hb3.size; (try simp at hs3))
      go_wp2_with fail
      refine oK hK ab2 fun hHeld => ?_
      clear hK K
      refine wE 14 fun K hK => ?_
      go_simp
      (with_reducible refine (Hpick.out _ (Hh.out.below ab0)).mono ?_; rintro e w4 ⟨rfl, hb4'⟩; have hb4 : Below _ _ w4 := ab10; have hs4 := hb4.size; (try simp at hs4))
      go_wp2_with fail
      refine oK hK ab2 fun hHeld => ?_
      clear hK K
      refine wE 16 fun K hK => ?_
      go_simp
      (go_at_call 170; refine (Hfin.out _ (HR.out.below ab0)).mono ?_; rintro e w5 ⟨g5, v5, rfl, hg5, hm5, hb5'⟩; have hb5 : Below _ _ w5 := ab9; have hs5 := hb5.size; (try simp at hs5); (try simp at hg5); have Hm5 : Hid (NewV hs.length g5 vs.length (vs.set t ⟨v5, findF j a.f g.a.f k i⟩) ⟨v5, findF j a.f g.a.f k i⟩ w5) := hide (NewV.of rfl htn hm5); clear hm5; have hgz5 : g5 < w5.heap.size := Hm5.out.lt oM)
      go_wp2_with fail
      refine oK hK ab2 fun hHeld => ?_
      clear hK K
      refine tq2 17 ?_
      refine tq2 18 ?_
      refine tq2 19 ?_
      refine wE 22 fun K hK => ?_
      have hE := hHeld.box (B := (w1.heap.size + 1)) (n := 2) sM; have kf := hE.fz; obtain ⟨u0, k0⟩ := hE.at (j := 0) oM; obtain ⟨u1, k1⟩ := hE.at (j := 1) oM
      go_simp
      go_wp2_with fail
      refine oK hK ab1 fun hHeld => ?_
      clear hK K
      refine wE 23 fun K hK => ?_
      have hE := hHeld.box (B := (w1.heap.size)) (n := 3) sM; have kf := hE.fz; obtain ⟨u0, k0⟩ := hE.at (j := 0) oM; obtain ⟨u1, k1⟩ := hE.at (j := 1) oM; obtain ⟨u2, k2⟩ := hE.at (j := 2) oM
      go_simp
      go_wp2_with fail
      refine oK hK ab1 fun hHeld => ?_
      clear hK K
      refine wD ?_
     rotate_left 1
    rotate_left 5
  all_goals go_wp2_with fail
  all_goals go_meet
  all_goals exact ⟨_, _, g5, v5, rfl, rfl, by omega, by omega, ⟨by go_simp, by go_simp⟩, ⟨by go_simp, by go_simp, by go_simp⟩, by omega, hide (by repeat' (first | with_reducible exact Hm5.out | with_reducible refine NewV.alloc ?_ _ _ | with_reducible refine NewV.set ?_ ?_ ?_ _ | with_reducible exact HasC.of aM | with_reducible refine HasC.set ?_ _ | omega)), ab0⟩
 case rest =>
  obtain ⟨B14, B15, g5, v5, rfl, rfl, hz14, hz15, ⟨p0, p1⟩, ⟨x0, x1, x2⟩, hg5, Hv5, hBc⟩ := hcut
  have hbc : ∀ x o, x < w1.heap.size → wc.cell? ⟨x, o, none⟩ = w1.cell? ⟨x, o, none⟩ := fun x o hx => hBc.cell (p := ⟨x, o, none⟩) hx
  have hfc : ∀ x o, x < w1.heap.size → wc.frozen? ⟨x, o, none⟩ = w1.frozen? ⟨x, o, none⟩ := fun x o hx => hBc.frozen (p := ⟨x, o, none⟩) hx
  have r0c := (hbc _ 0 hz1a).trans r0
  have r1c := (hbc _ 1 hz1a).trans r1
  have r2c := (hbc _ 0 hz1b).trans r2
  have r3c := (hbc _ 1 hz1b).trans r3
  have r4c := (hbc _ 2 hz1b).trans r4
  have f0c : ∀ o, wc.frozen? ⟨w.heap.size + 1, o, none⟩ = false := fun o => (hfc _ o hz1a).trans (f0 o)
  have f1c : ∀ o, wc.frozen? ⟨w.heap.size + 1 + 1, o, none⟩ = false := fun o => (hfc _ o hz1b).trans (f1 o)
  have n1 : ¬ w.heap.size + 1 = B14 := by omega
  have n2 : ¬ w.heap.size + 1 = B15 := by omega
  have n3 : ¬ w.heap.size + 1 + 1 = B14 := by omega
  have n4 : ¬ w.heap.size + 1 + 1 = B15 := by omega
  go_wp2_with fail
  have hBw : Below w.heap.size w wc := hBa.trans (hBc.mono oM)
  have n5' : w.heap.size + 1 ≠ g5 := by omega
  have n6' : w.heap.size + 1 + 1 ≠ g5 := by omega
  have hg6 : w.heap.size ≤ g5 := by omega
  have Hvz : Hid (NewV hs.length g5 vs.length (vs.set t ⟨v5, findF j a.f g.a.f k i⟩) ⟨v5, findF j a.f g.a.f k i⟩ (((((wc.setCell ⟨w.heap.size + 1, 0, none⟩ (.slice (some ⟨b, off, none⟩) hs.length pc)).setCell ⟨w.heap.size + 1, 1, none⟩ (.slice (some ⟨g5, 0, none⟩) vs.length vs.length)).setCell ⟨w.heap.size + 1 + 1, 0, none⟩ (.int .i64 g.x.v)).setCell ⟨w.heap.size + 1 + 1, 1, none⟩ (.int .u32 g.x.r)).setCell ⟨w.heap.size + 1 + 1, 2, none⟩ (.int .u32 g.x.f))) := hide (NewV.set (NewV.set (NewV.set (NewV.set (NewV.set Hv5.out n5' (.of r0c) _) n5' (.set (.of r1c) _) _) n6' (.set (.set (.of r2c) _) _) _) n6' (.set (.set (.set (.of r3c) _) _) _) _) n6' (.set (.set (.set (.set (.of r4c) _) _) _) _) _)
  have HBz : Hid (Below w.heap.size w (((((wc.setCell ⟨w.heap.size + 1, 0, none⟩ (.slice (some ⟨b, off, none⟩) hs.length pc)).setCell ⟨w.heap.size + 1, 1, none⟩ (.slice (some ⟨g5, 0, none⟩) vs.length vs.length)).setCell ⟨w.heap.size + 1 + 1, 0, none⟩ (.int .i64 g.x.v)).setCell ⟨w.heap.size + 1 + 1, 1, none⟩ (.int .u32 g.x.r)).setCell ⟨w.heap.size + 1 + 1, 2, none⟩ (.int .u32 g.x.f))) := hide ab0
  clear q0 q1 q2 r0 r1 r2 r3 r4 f0 f1 fN hbc hfc HS c0 hBc hBa hBw Hseen Hat Hwrong Hfin Hpick Hh HaR hs1 hz1 hz1a hz1b hz1c hz14 hz15 h0 h1 hb hbz1 hbz2 hbz
  refine wp_region_held_drew (S := (fun W => (W.cell? ⟨B14, 0, none⟩ = some (.slice (some ⟨b, off, none⟩) hs.length pc) ∧ W.cell? ⟨B14, 1, none⟩ = some (.slice (some ⟨g5, 0, none⟩) vs.length vs.length)) ∧ (W.cell? ⟨B15, 0, none⟩ = some (.int .i64 g.x.v) ∧ W.cell? ⟨B15, 1, none⟩ = some (.int .u32 g.x.r) ∧ W.cell? ⟨B15, 2, none⟩ = some (.int .u32 g.x.f)))) kR ab20 (fun hHeld => ?_)
  refine tq1 0 ?_
  refine tq1 1 ?_
  refine wE 2 fun K hK => ?_
  go_simp
  go_wp2_with fail
  refine oK hK ab20 fun hHeld => ?_
  clear hK K
  refine wE 3 fun K hK => ?_
  go_simp
  go_wp2_with fail
  refine oK hK ab20 fun hHeld => ?_
  clear hK K
  refine tq1 4 ?_
  refine wD ?_
  go_wp2_with fail
  have n5 : w.heap.size + 1 ≠ g5 := n5'
  have n6 : w.heap.size + 1 + 1 ≠ g5 := n6'
  refine bodyPost_ret (v := .tuple #[.agg #[.slice (some ⟨b, off, none⟩) hs.length pc, .slice (some ⟨g5, 0, none⟩) vs.length vs.length], (.agg #[.int .i64 (g.x).v, .int .u32 (g.x).r, .int .u32 (g.x).f]), .int .i64 0]) (by simp [results, Tryz.results157, go_sem]; (try go_simp)) rfl ⟨g5, v5, rfl, hg6, MemV.with_R HR.out ?_ rfl ?_ ?_, ?_⟩
  · with_reducible exact HBz.out.drew
  · with_reducible exact Hvz.out.drew.rd
  · with_reducible exact Hvz.out.drew.r
  · with_reducible exact HBz.out.drew
end Go.Proofs.YtnnmenmifphadaaGreatDoor
