/- Package memory: adds, not whole. -/
import Derived.Test.YtfdndkgjmmeafaaGreatDoorG24
namespace Go.Proofs.YtfdndkgjmmeafaaGreatDoor
set_option linter.unusedSimpArgs false
set_option linter.unusedVariables false
open Go.RowKit Go.Maps
abbrev an0 : Oper := { dst := some 21, op := Op.load 34 (Operand.tmp 5), type := 34, pos := "memory.go:97", after := #[], guard := none }
abbrev an1 : Oper := { dst := some 22, op := Op.move (Operand.tmp 1), type := 3, pos := "memory.go:97", after := #[], guard := none }
abbrev an2 : Oper := { dst := some 23, op := Op.call { callee := Callee.value (Operand.func 60), args := #[Operand.tmp 21, Operand.tmp 22], argTypes := #[34, 3] }, type := 133, pos := "memory.go:97", after := #[{ on := 0, ground := Ground.data }, { on := 1, ground := Ground.data }], guard := none }
abbrev an3 : Oper := { dst := some 24, op := Op.move (Operand.tmp 2), type := 22, pos := "memory.go:97", after := #[], guard := none }
abbrev an4 : Oper := { dst := some 25, op := Op.load 100 (Operand.tmp 11), type := 100, pos := "memory.go:97", after := #[], guard := none }
abbrev an5 : Oper := { dst := some 26, op := Op.call { callee := Callee.value (Operand.func 57), args := #[Operand.tmp 25], argTypes := #[100] }, type := 3, pos := "memory.go:97", after := #[{ on := 4, ground := Ground.data }, { on := 2, ground := Ground.chain }], guard := none }
abbrev an6 : Oper := { dst := some 27, op := Op.call { callee := Callee.value (Operand.func 168), args := #[Operand.tmp 23, Operand.tmp 24, Operand.tmp 26], argTypes := #[133, 22, 3] }, type := 133, pos := "memory.go:97", after := #[{ on := 2, ground := Ground.data }, { on := 3, ground := Ground.data }, { on := 5, ground := Ground.data }, { on := 5, ground := Ground.chain }], guard := none }
abbrev an7 : Oper := { dst := some 12, op := Op.alloc 133, type := 0, pos := "memory.go:97", after := #[], guard := none }
abbrev an8 : Oper := { dst := none, op := Op.store 133 (Operand.tmp 12) (Operand.tmp 27), type := 0, pos := "memory.go:97", after := #[{ on := 7, ground := Ground.data }, { on := 6, ground := Ground.data }, { on := 6, ground := Ground.chain }, { on := 0, ground := Ground.phase }, { on := 1, ground := Ground.phase }, { on := 2, ground := Ground.phase }, { on := 3, ground := Ground.phase }, { on := 4, ground := Ground.phase }, { on := 5, ground := Ground.phase }, { on := 6, ground := Ground.phase }, { on := 7, ground := Ground.phase }], guard := none }
set_option maxHeartbeats 40000000 in
set_option maxRecDepth 100000 in
theorem mem_adds_no (m : MemV) (t k : Nat) (h : HistV) (a : VwV) (x : W3) (w : World) (hR : m.R w) (hh : m.hs[k]? = some h) (ha : m.vs[t]? = some a) (hn : m.vs.length ≤ 1000) (hL : m.hs.length ≤ 4096) (hl6 : h.l.length ≤ 1000000) :
    Calls Tryz.prog 153 #[(.agg #[.slice (m).pA (m).hs.length (m).pc, .slice (m).vA (m).vs.length (m).vc]), .int .i64 ((t : Int) + 1), .int .i64 k, (.agg #[.int .i64 (x).v, .int .u32 (x).r, .int .u32 (x).f]), .bool false] w fun e w' => ∃ g9 pc' g7 cap' G v' vt, e = .returned (.agg #[.slice (some ⟨g9, 0, none⟩) m.hs.length pc', .slice (some ⟨G, 0, none⟩) m.vs.length m.vs.length]) ∧ w.heap.size ≤ g9 ∧ w.heap.size ≤ g7 ∧ w.heap.size ≤ G ∧ (MemV.with ⟨some ⟨g9, 0, none⟩, pc', m.hs.set k ⟨some ⟨g7, 0, none⟩, cap', h.l ++ [⟨x, (t : Int) + 1, ⟨vt, withF (fun _ => 0) k h.l.length⟩⟩]⟩, m.vA, m.vc, m.vs⟩ (some ⟨G, 0, none⟩) m.vs.length t ⟨v', withF a.f k h.l.length⟩).R w' ∧ Below w.heap.size w w' := by
  obtain ⟨i0, hi0, jz0, jz1, jz2⟩ := info_parts info_hist
  have hi := hide hi0
  have iz0 := hide jz0
  have iz1 := hide jz1
  have iz2 := hide jz2
  clear hi0 jz0 jz1 jz2
  have hkn : k < m.hs.length := (List.getElem?_eq_some_iff.1 hh).1
  have htn : t < m.vs.length := (List.getElem?_eq_some_iff.1 ha).1
  have hhR : h.R m.hs.length w := hR.1.2.2.2 h (List.mem_of_getElem? hh)
  have haR : a.R m.hs.length w := hR.2.2.2.2 a (List.mem_of_getElem? ha)
  have hpl := hR.1
  obtain ⟨b, off, e, hb, c0⟩ := Rd.one hR.1.2.2.1 hkn hh
  obtain ⟨pA, pc, hs, vA, vc, vs⟩ := m
  simp only at e hkn htn hhR haR hn hL hh ha hpl
  subst e
  obtain ⟨hpc, -, hrdP, hallP⟩ := hpl
  have Hpc := hide hpc
  have HrdP := hide hrdP
  have HallP := hide hallP
  obtain ⟨m, hm⟩ : ∃ m, m = MemV.mk (some ⟨b, off, none⟩) pc hs vA vc vs := ⟨_, rfl⟩
  rw [← hm] at hR
  have hseen := fun W (hw : m.R W) => mem_seen m t a W hw (by rw [hm]; exact ha) (by rw [hm]; exact hn)
  have hwith := fun W (hw : a.R hs.length W) => view_with hs.length hL a k h.l.length W hw (by omega) (by omega) (WalkArith.wf_i64 (by omega))
  have hadd := fun (g : MsgV) W (hw : h.R hs.length W) (hg : g.a.R hs.length W) => hist_add hs.length h g W hw hg hl6
  have hmw : ∀ (p' : Option Addr) (c' : Nat) (hs' : List HistV) (v : VwV) (W : World), MemV.R W ⟨p', c', hs', vA, vc, vs⟩ → hs'.length = hs.length → v.R hs.length W → Calls Tryz.prog 170 #[.agg #[.slice p' hs.length c', .slice vA vs.length vc], .int .i64 ((t : Int) + 1), .agg #[.map v.v]] W fun e w' => ∃ g, e = .returned (.agg #[.slice p' hs.length c', .slice (some ⟨g, 0, none⟩) vs.length vs.length]) ∧ W.heap.size ≤ g ∧ (MemV.with ⟨p', c', hs', vA, vc, vs⟩ (some ⟨g, 0, none⟩) vs.length t v).R w' ∧ Below W.heap.size W w' := by
    intro p' c' hs' v W hw e2 hx
    have hq := mem_with ⟨p', c', hs', vA, vc, vs⟩ t v W hw htn hn (by show v.R hs'.length W; rw [e2]; exact hx)
    simp only [e2] at hq
    exact hq
  simp only [hm] at hseen
  rw [hm] at hR
  have Hseen := hide hseen
  have Hwith := hide hwith
  have Hadd := hide hadd
  have Hmw := hide hmw
  have HR := hide hR
  have Hh := hide hhR
  have HaR := hide haR
  have h0 : (0 : Int) ≤ (k : Int) := by omega
  have h1 : (k : Int) < (hs.length : Int) := by omega
  have hbz1 : b < w.heap.size + 1 := by omega
  have hbz2 : b < w.heap.size + 1 + 1 := by omega
  have hbz : b < w.heap.size + 1 + 1 + 1 := by omega
  have hbz3 : b < w.heap.size + 1 + 1 + 1 + 1 := by omega
  have hk6 : k < 4096 := by omega
  have HL6 := hide hL
  have Hl6 := hide hl6
  unfold histv at c0
  clear hR hhR haR hh ha hn hL hl6 hm hseen hwith hadd hmw hpc hrdP hallP
  go_enter Tryz.func153, Tryz.ntmps153
  go_wp2_with fail
  obtain ⟨w1, hw1⟩ : ∃ W : World, W = ((((w.alloc (.cells #[.slice (some ⟨b, off, none⟩) hs.length pc, .slice vA vs.length vc] 34)).alloc (.cells #[.int .i64 x.v, .int .u32 x.r, .int .u32 x.f] 25)).alloc (.cells #[.slice none 0 0, .slice none 0 0] 34)).alloc (.cells #[.slice h.A h.l.length h.cap] 100)) := ⟨_, rfl⟩
  have hs1 : w.heap.size + 1 + 1 + 1 + 1 ≤ w1.heap.size := by rw [hw1]; simp
  have q0 : w1.cell? ⟨w.heap.size, 0, none⟩ = some (.slice (some ⟨b, off, none⟩) hs.length pc) := by rw [hw1]; go_simp
  have q1 : w1.cell? ⟨w.heap.size, 1, none⟩ = some (.slice vA vs.length vc) := by rw [hw1]; go_simp
  have x0 : w1.cell? ⟨w.heap.size + 1, 0, none⟩ = some (.int .i64 x.v) := by rw [hw1]; go_simp
  have x1 : w1.cell? ⟨w.heap.size + 1, 1, none⟩ = some (.int .u32 x.r) := by rw [hw1]; go_simp
  have x2 : w1.cell? ⟨w.heap.size + 1, 2, none⟩ = some (.int .u32 x.f) := by rw [hw1]; go_simp
  have r0 : w1.cell? ⟨w.heap.size + 1 + 1, 0, none⟩ = some (.slice none 0 0) := by rw [hw1]; go_simp
  have r1 : w1.cell? ⟨w.heap.size + 1 + 1, 1, none⟩ = some (.slice none 0 0) := by rw [hw1]; go_simp
  have q2 : w1.cell? ⟨w.heap.size + 1 + 1 + 1, 0, none⟩ = some (.slice h.A h.l.length h.cap) := by rw [hw1]; go_simp
  have fN : ∀ o, w1.frozen? ⟨w.heap.size, o, none⟩ = false := by intro o; rw [hw1]; go_simp
  have f1 : ∀ o, w1.frozen? ⟨w.heap.size + 1 + 1, o, none⟩ = false := by intro o; rw [hw1]; go_simp
  have hBa : Below w.heap.size w w1 := by rw [hw1]; exact ab0
  have HS : HX w.heap.size [.slice (some ⟨b, off, none⟩) hs.length pc, .slice vA vs.length vc] (w.heap.size + 1 + 1 + 1) 0 (.slice h.A h.l.length h.cap) [] w1 := ⟨BoxC.of2 q0 q1 (by intro o; exact fN o), CellB.of q2, by simp⟩
  rw [← hw1]
  clear hw1
  have hz1 : w.heap.size < w1.heap.size := by omega
  have hz1a : w.heap.size + 1 < w1.heap.size := by omega
  have hz1b : w.heap.size + 1 + 1 < w1.heap.size := by omega
  have hz1c : w.heap.size + 1 + 1 + 1 < w1.heap.size := by omega
  have hz1d : b < w1.heap.size := by omega
  go_cut [12] from 21 to 62 (fun s12 wx => ∃ (B12 : Nat) (v4 : Option Nat), s12 = .pointer (some ⟨B12, 0, none⟩) ∧ w1.heap.size ≤ B12 ∧ wx.cell? ⟨B12, 0, none⟩ = some (.map v4) ∧ Hid (VwR hs.length ⟨v4, withF a.f k h.l.length⟩ wx) ∧ Below w1.heap.size w1 wx)
  case first =>
   refine wp_region_held_drew (S := (HX w.heap.size [.slice (some ⟨b, off, none⟩) hs.length pc, .slice vA vs.length vc] (w.heap.size + 1 + 1 + 1) 0 (.slice h.A h.l.length h.cap) ([]))) (by kernel_rfl) ab4 (fun hHeld => ?_)
   have hKept := hHeld; (try simp only [HX_drew] at hHeld)
   refine wpAnyH_take (i := 0) (v := ?_) (oi := an0) (by rfl) (by kernel_rfl) (by kernel_rfl) (by kernel_rfl) (fun _ _ _ h => h) (Or.inl ⟨by rfl, ?_⟩) (by assumption) ?_; rotate_left; focus (intro wTk hSw; (try delta an0); (try dsimp only at hSw); have kS0 := hSw.1.1 0 _ rfl; have kS1 := hSw.1.1 1 _ rfl; have kSc := hSw.2.1.1; go_simp; (try with_reducible rfl); done)
   (try simp only [Act.put, List.setIfInBounds_toArray, List.set_cons_zero, List.set_cons_succ])
   refine wpAnyH_take (i := 1) (v := ?_) (oi := an1) (by rfl) (by kernel_rfl) (by kernel_rfl) (by kernel_rfl) (fun _ _ _ h => h) (Or.inl ⟨by rfl, ?_⟩) (by assumption) ?_; rotate_left; focus (intro wTk hSw; (try delta an1); (try dsimp only at hSw); have kS0 := hSw.1.1 0 _ rfl; have kS1 := hSw.1.1 1 _ rfl; have kSc := hSw.2.1.1; go_simp; (try with_reducible rfl); done)
   (try simp only [Act.put, List.setIfInBounds_toArray, List.set_cons_zero, List.set_cons_succ])
   refine wpAnyH_take (i := 3) (v := ?_) (oi := an3) (by rfl) (by kernel_rfl) (by kernel_rfl) (by kernel_rfl) (fun _ _ _ h => h) (Or.inl ⟨by rfl, ?_⟩) (by assumption) ?_; rotate_left; focus (intro wTk hSw; (try delta an3); (try dsimp only at hSw); have kS0 := hSw.1.1 0 _ rfl; have kS1 := hSw.1.1 1 _ rfl; have kSc := hSw.2.1.1; go_simp; (try with_reducible rfl); done)
   (try simp only [Act.put, List.setIfInBounds_toArray, List.set_cons_zero, List.set_cons_succ])
   refine wpAnyH_take (i := 4) (v := ?_) (oi := an4) (by rfl) (by kernel_rfl) (by kernel_rfl) (by kernel_rfl) (fun _ _ _ h => h) (Or.inl ⟨by rfl, ?_⟩) (by assumption) ?_; rotate_left; focus (intro wTk hSw; (try delta an4); (try dsimp only at hSw); have kS0 := hSw.1.1 0 _ rfl; have kS1 := hSw.1.1 1 _ rfl; have kSc := hSw.2.1.1; go_simp; (try with_reducible rfl); done)
   (try simp only [Act.put, List.setIfInBounds_toArray, List.set_cons_zero, List.set_cons_succ])
   refine wpAnyH_ready (rs := [2, 7]) (by kernel_rfl) (by simp) ?_
   focus
     refine AllReadyH.cons (o := an2) (by rfl) (fun K hK => ?_) (AllReadyH.cons (o := an7) (by rfl) (fun K hK => ?_) (AllReadyH.nil))
     focus
       delta an2
       go_simp
       (go_at_call 60; refine (Hseen.out _ (HR.out.below ab0)).mono ?_; rintro e w2 ⟨rfl, hb2'⟩; have hb2 : Below _ _ w2 := ab15; have hsw2 := (hb2).size; (try simp at hsw2))
       go_wp2_with fail
       refine hK.out _ _ ab4 (fun hHeld => ?_)
       clear hK K
       (try simp only [Act.put, List.setIfInBounds_toArray, List.set_cons_zero, List.set_cons_succ])
       have hKept := hHeld; (try simp only [HX_drew] at hHeld)
       refine wpAnyH_ready (rs := [5, 7]) (by kernel_rfl) (by simp) ?_
       focus
         refine AllReadyH.cons (o := an5) (by rfl) (fun K hK => ?_) (AllReadyH.cons (o := an7) (by rfl) (fun K hK => ?_) (AllReadyH.nil))
         focus
           delta an5
           go_simp
           (go_at_call 57; refine (hist_len h _).mono ?_; rintro e w3 ⟨rfl, hb3'⟩; have hb3 : Below _ _ w3 := ab13; have hsw3 := (hb3).size; (try simp at hsw3))
           go_wp2_with fail
           refine hK.out _ _ ab4 (fun hHeld => ?_)
           clear hK K
           (try simp only [Act.put, List.setIfInBounds_toArray, List.set_cons_zero, List.set_cons_succ])
           have hKept := hHeld; (try simp only [HX_drew] at hHeld)
           refine wpAnyH_ready (rs := [6, 7]) (by kernel_rfl) (by simp) ?_
           focus
             refine AllReadyH.cons (o := an6) (by rfl) (fun K hK => ?_) (AllReadyH.cons (o := an7) (by rfl) (fun K hK => ?_) (AllReadyH.nil))
             focus
               delta an6
               go_simp
               (go_at_call 168; refine (Hwith.out _ (HaR.out.below ab0)).mono ?_; rintro e w4 ⟨v4, rfl, hv4, hb4'⟩; have hb4 : Below _ _ w4 := ab8; have hsw4 := (hb4).size; (try simp at hsw4); have Hv4 : Hid (VwR hs.length ⟨v4, withF a.f k h.l.length⟩ w4) := hide hv4; clear hv4)
               go_wp2_with fail
               refine hK.out _ _ ab4 (fun hHeld => ?_)
               clear hK K
               (try simp only [Act.put, List.setIfInBounds_toArray, List.set_cons_zero, List.set_cons_succ])
               have hKept := hHeld; (try simp only [HX_drew] at hHeld)
               refine wpAnyH_ready (rs := [7]) (by kernel_rfl) (by simp) ?_
               refine AllReadyH.cons (o := an7) (by rfl) (fun K hK => ?_) (AllReadyH.nil)
               delta an7
               go_simp
               skip
               go_wp2_with fail
               refine shut_more hK (S' := (HX _ _ _ _ _ ((w4.heap.size, 1) :: _))) (fun w h => HX.pop h) ab3 (fun hHeld => ?_)
               clear hK K
               (try simp only [Act.put, List.setIfInBounds_toArray, List.set_cons_zero, List.set_cons_succ])
               have hKept := hHeld; (try simp only [HX_drew] at hHeld)
               refine wpAnyH_ready (rs := [8]) (by kernel_rfl) (by simp) ?_
               refine AllReadyH.cons (o := an8) (by rfl) (fun K hK => ?_) (AllReadyH.nil)
               delta an8
               have hE := hHeld.box (B := (w4.heap.size)) (n := 1) (by simp); have kf := hE.fz; obtain ⟨u0, k0⟩ := hE.at (j := 0) (by omega)
               go_simp
               skip
               go_wp2_with fail
               refine shut_more hK (S' := _) (fun w h => h) ab1 (fun hHeld => ?_)
               clear hK K
               (try simp only [Act.put, List.setIfInBounds_toArray, List.set_cons_zero, List.set_cons_succ])
               have hKept := hHeld; (try simp only [HX_drew] at hHeld)
               refine wpAnyH_done (by kernel_rfl) ?_ _
             rotate_left 1
             focus
               delta an7
               go_simp
               skip
               go_wp2_with fail
               refine shut_more hK (S' := (HX _ _ _ _ _ ((w3.heap.size, 1) :: _))) (fun w h => HX.pop h) ab3 (fun hHeld => ?_)
               clear hK K
               (try simp only [Act.put, List.setIfInBounds_toArray, List.set_cons_zero, List.set_cons_succ])
               have hKept := hHeld; (try simp only [HX_drew] at hHeld)
               refine wpAnyH_ready (rs := [6]) (by kernel_rfl) (by simp) ?_
               refine AllReadyH.cons (o := an6) (by rfl) (fun K hK => ?_) (AllReadyH.nil)
               delta an6
               go_simp
               (go_at_call 168; refine (Hwith.out _ (HaR.out.below ab0)).mono ?_; rintro e w4 ⟨v4, rfl, hv4, hb4'⟩; have hb4 : Below _ _ w4 := ab8; have hsw4 := (hb4).size; (try simp at hsw4); have Hv4 : Hid (VwR hs.length ⟨v4, withF a.f k h.l.length⟩ w4) := hide hv4; clear hv4)
               go_wp2_with fail
               refine hK.out _ _ ab2 (fun hHeld => ?_)
               clear hK K
               (try simp only [Act.put, List.setIfInBounds_toArray, List.set_cons_zero, List.set_cons_succ])
               have hKept := hHeld; (try simp only [HX_drew] at hHeld)
               refine wpAnyH_ready (rs := [8]) (by kernel_rfl) (by simp) ?_
               refine AllReadyH.cons (o := an8) (by rfl) (fun K hK => ?_) (AllReadyH.nil)
               delta an8
               have hE := hHeld.box (B := (w3.heap.size)) (n := 1) (by simp); have kf := hE.fz; obtain ⟨u0, k0⟩ := hE.at (j := 0) (by omega)
               go_simp
               skip
               go_wp2_with fail
               refine shut_more hK (S' := _) (fun w h => h) ab1 (fun hHeld => ?_)
               clear hK K
               (try simp only [Act.put, List.setIfInBounds_toArray, List.set_cons_zero, List.set_cons_succ])
               have hKept := hHeld; (try simp only [HX_drew] at hHeld)
               refine wpAnyH_done (by kernel_rfl) ?_ _
             rotate_left 1
         rotate_left 2
         focus
           delta an7
           go_simp
           skip
           go_wp2_with fail
           refine shut_more hK (S' := (HX _ _ _ _ _ ((w2.heap.size, 1) :: _))) (fun w h => HX.pop h) ab3 (fun hHeld => ?_)
           clear hK K
           (try simp only [Act.put, List.setIfInBounds_toArray, List.set_cons_zero, List.set_cons_succ])
           have hKept := hHeld; (try simp only [HX_drew] at hHeld)
           refine wpAnyH_ready (rs := [5]) (by kernel_rfl) (by simp) ?_
           refine AllReadyH.cons (o := an5) (by rfl) (fun K hK => ?_) (AllReadyH.nil)
           delta an5
           go_simp
           (go_at_call 57; refine (hist_len h _).mono ?_; rintro e w3 ⟨rfl, hb3'⟩; have hb3 : Below _ _ w3 := ab13; have hsw3 := (hb3).size; (try simp at hsw3))
           go_wp2_with fail
           refine hK.out _ _ ab2 (fun hHeld => ?_)
           clear hK K
           (try simp only [Act.put, List.setIfInBounds_toArray, List.set_cons_zero, List.set_cons_succ])
           have hKept := hHeld; (try simp only [HX_drew] at hHeld)
           refine wpAnyH_ready (rs := [6]) (by kernel_rfl) (by simp) ?_
           refine AllReadyH.cons (o := an6) (by rfl) (fun K hK => ?_) (AllReadyH.nil)
           delta an6
           go_simp
           (go_at_call 168; refine (Hwith.out _ (HaR.out.below ab0)).mono ?_; rintro e w4 ⟨v4, rfl, hv4, hb4'⟩; have hb4 : Below _ _ w4 := ab8; have hsw4 := (hb4).size; (try simp at hsw4); have Hv4 : Hid (VwR hs.length ⟨v4, withF a.f k h.l.length⟩ w4) := hide hv4; clear hv4)
           go_wp2_with fail
           refine hK.out _ _ ab2 (fun hHeld => ?_)
           clear hK K
           (try simp only [Act.put, List.setIfInBounds_toArray, List.set_cons_zero, List.set_cons_succ])
           have hKept := hHeld; (try simp only [HX_drew] at hHeld)
           refine wpAnyH_ready (rs := [8]) (by kernel_rfl) (by simp) ?_
           refine AllReadyH.cons (o := an8) (by rfl) (fun K hK => ?_) (AllReadyH.nil)
           delta an8
           have hE := hHeld.box (B := (w2.heap.size)) (n := 1) (by simp); have kf := hE.fz; obtain ⟨u0, k0⟩ := hE.at (j := 0) (by omega)
           go_simp
           skip
           go_wp2_with fail
           refine shut_more hK (S' := _) (fun w h => h) ab1 (fun hHeld => ?_)
           clear hK K
           (try simp only [Act.put, List.setIfInBounds_toArray, List.set_cons_zero, List.set_cons_succ])
           have hKept := hHeld; (try simp only [HX_drew] at hHeld)
           refine wpAnyH_done (by kernel_rfl) ?_ _
         rotate_left 1
     rotate_left 3
     focus
       delta an7
       go_simp
       skip
       go_wp2_with fail
       refine shut_more hK (S' := (HX _ _ _ _ _ ((w1.heap.size, 1) :: _))) (fun w h => HX.pop h) ab3 (fun hHeld => ?_)
       clear hK K
       (try simp only [Act.put, List.setIfInBounds_toArray, List.set_cons_zero, List.set_cons_succ])
       have hKept := hHeld; (try simp only [HX_drew] at hHeld)
       refine wpAnyH_ready (rs := [2]) (by kernel_rfl) (by simp) ?_
       refine AllReadyH.cons (o := an2) (by rfl) (fun K hK => ?_) (AllReadyH.nil)
       delta an2
       go_simp
       (go_at_call 60; refine (Hseen.out _ (HR.out.below ab0)).mono ?_; rintro e w2 ⟨rfl, hb2'⟩; have hb2 : Below _ _ w2 := ab15; have hsw2 := (hb2).size; (try simp at hsw2))
       go_wp2_with fail
       refine hK.out _ _ ab2 (fun hHeld => ?_)
       clear hK K
       (try simp only [Act.put, List.setIfInBounds_toArray, List.set_cons_zero, List.set_cons_succ])
       have hKept := hHeld; (try simp only [HX_drew] at hHeld)
       refine wpAnyH_ready (rs := [5]) (by kernel_rfl) (by simp) ?_
       refine AllReadyH.cons (o := an5) (by rfl) (fun K hK => ?_) (AllReadyH.nil)
       delta an5
       go_simp
       (go_at_call 57; refine (hist_len h _).mono ?_; rintro e w3 ⟨rfl, hb3'⟩; have hb3 : Below _ _ w3 := ab13; have hsw3 := (hb3).size; (try simp at hsw3))
       go_wp2_with fail
       refine hK.out _ _ ab2 (fun hHeld => ?_)
       clear hK K
       (try simp only [Act.put, List.setIfInBounds_toArray, List.set_cons_zero, List.set_cons_succ])
       have hKept := hHeld; (try simp only [HX_drew] at hHeld)
       refine wpAnyH_ready (rs := [6]) (by kernel_rfl) (by simp) ?_
       refine AllReadyH.cons (o := an6) (by rfl) (fun K hK => ?_) (AllReadyH.nil)
       delta an6
       go_simp
       (go_at_call 168; refine (Hwith.out _ (HaR.out.below ab0)).mono ?_; rintro e w4 ⟨v4, rfl, hv4, hb4'⟩; have hb4 : Below _ _ w4 := ab8; have hsw4 := (hb4).size; (try simp at hsw4); have Hv4 : Hid (VwR hs.length ⟨v4, withF a.f k h.l.length⟩ w4) := hide hv4; clear hv4)
       go_wp2_with fail
       refine hK.out _ _ ab2 (fun hHeld => ?_)
       clear hK K
       (try simp only [Act.put, List.setIfInBounds_toArray, List.set_cons_zero, List.set_cons_succ])
       have hKept := hHeld; (try simp only [HX_drew] at hHeld)
       refine wpAnyH_ready (rs := [8]) (by kernel_rfl) (by simp) ?_
       refine AllReadyH.cons (o := an8) (by rfl) (fun K hK => ?_) (AllReadyH.nil)
       delta an8
       have hE := hHeld.box (B := (w1.heap.size)) (n := 1) (by simp); have kf := hE.fz; obtain ⟨u0, k0⟩ := hE.at (j := 0) (by omega)
       go_simp
       skip
       go_wp2_with fail
       refine shut_more hK (S' := _) (fun w h => h) ab1 (fun hHeld => ?_)
       clear hK K
       (try simp only [Act.put, List.setIfInBounds_toArray, List.set_cons_zero, List.set_cons_succ])
       have hKept := hHeld; (try simp only [HX_drew] at hHeld)
       refine wpAnyH_done (by kernel_rfl) ?_ _
     rotate_left 1
   all_goals go_wp2_with fail
   all_goals go_meet
   all_goals exact ⟨_, v4, rfl, by omega, by go_simp, hide (by repeat' (first | with_reducible exact Hv4.out | with_reducible refine VwR.drew ?_ | with_reducible refine VwR.alloc ?_ _ _ | with_reducible refine VwR.set ?_ ?_ _ | with_reducible exact HasC.of (by assumption) | with_reducible refine HasC.set ?_ _ | omega)), ab0⟩
  case rest =>
   obtain ⟨B12, v4, rfl, hz12, p0, Hv4, hBc⟩ := hcut
   have hbc : ∀ x o, x < w1.heap.size → wc.cell? ⟨x, o, none⟩ = w1.cell? ⟨x, o, none⟩ := fun x o hx => hBc.cell (p := ⟨x, o, none⟩) hx
   have hfc : ∀ x o, x < w1.heap.size → wc.frozen? ⟨x, o, none⟩ = w1.frozen? ⟨x, o, none⟩ := fun x o hx => hBc.frozen (p := ⟨x, o, none⟩) hx
   have q0c := (hbc _ 0 hz1).trans q0
   have q1c := (hbc _ 1 hz1).trans q1
   have q2c := (hbc _ 0 hz1c).trans q2
   have x0c := (hbc _ 0 hz1a).trans x0
   have x1c := (hbc _ 1 hz1a).trans x1
   have x2c := (hbc _ 2 hz1a).trans x2
   have r0c := (hbc _ 0 hz1b).trans r0
   have r1c := (hbc _ 1 hz1b).trans r1
   have fNc : ∀ o, wc.frozen? ⟨w.heap.size, o, none⟩ = false := fun o => (hfc _ o hz1).trans (fN o)
   have f1c : ∀ o, wc.frozen? ⟨w.heap.size + 1 + 1, o, none⟩ = false := fun o => (hfc _ o hz1b).trans (f1 o)
   have hBw : Below w.heap.size w wc := hBa.trans (hBc.mono (by omega))
   have hsc := hBc.size
   have hzc : w.heap.size < wc.heap.size := by omega
   have hzca : w.heap.size + 1 < wc.heap.size := by omega
   have hzcb : w.heap.size + 1 + 1 < wc.heap.size := by omega
   have hzcc : w.heap.size + 1 + 1 + 1 < wc.heap.size := by omega
   have hzcd : b < wc.heap.size := by omega
   have hzce : B12 < wc.heap.size := cell_lt p0
   clear q0 q1 q2 x0 x1 x2 r0 r1 fN f1 hbc hfc HS c0 hBc hBa Hseen Hwith hz1 hz1a hz1b hz1c hz1d
   have e1 : wrap64 ((k : Int) + 1) = (k : Int) + 1 := by unfold wrap64; omega
   have e2 : (0 : Int) ≤ (k : Int) + 1 := by omega
   have e3 : (k : Int) + 1 ≤ (hs.length : Int) := by omega
   have e4 : ((k : Int) + 1).toNat = k + 1 := by omega
   have e5 : (k : Int) ≤ (pc : Int) := by have := Hpc.out; omega
   have e6 : (hs.length : Int) ≤ (pc : Int) := by have := Hpc.out; omega
   obtain ⟨A14, c14, hA14, hR14⟩ := tail_rd HrdP.out (k := k) (by omega) Hpc.out
   have hRk := hide (Rd.take1 HrdP.out (k := k) (by omega))
   clear h0 h1
   have hlen0 := fun W => hist_len h W
   have hwz := fun W => view_with hs.length HL6.out ⟨none, fun _ => 0⟩ k h.l.length W (VwV.R.nil _ _) (by omega) (by omega) (WalkArith.wf_i64 (by have := Hl6.out; omega))
   have Hwz := hide hwz
   clear hwz
   go_upto_region 6 with (first
     | (go_at_call 57; refine (hist_len h _).mono ?_; rintro e w3 ⟨rfl, hb3⟩; obtain ⟨hcc3, hff3⟩ := bcell hb3; have hs3 := hb3.size; (try simp at hs3); have zw30 : w.heap.size < w3.heap.size := (by omega); have zw31 : w.heap.size + 1 < w3.heap.size := (by omega); have zw32 : w.heap.size + 1 + 1 < w3.heap.size := (by omega); have zw33 : w.heap.size + 1 + 1 + 1 < w3.heap.size := (by omega); have zw34 : wc.heap.size < w3.heap.size := (by omega); have zw35 : B12 < w3.heap.size := (by omega); have zw36 : b < w3.heap.size := (by omega))
     | (go_at_call 168; refine (Hwz.out _).mono ?_; rintro e w5 ⟨vt, rfl, hvt, hb5⟩; obtain ⟨hcc5, hff5⟩ := bcell hb5; have hs5 := hb5.size; (try simp at hs5); have zw50 : w.heap.size < w5.heap.size := (by omega); have zw51 : w.heap.size + 1 < w5.heap.size := (by omega); have zw52 : w.heap.size + 1 + 1 < w5.heap.size := (by omega); have zw53 : w.heap.size + 1 + 1 + 1 < w5.heap.size := (by omega); have zw54 : wc.heap.size < w5.heap.size := (by omega); have zw55 : B12 < w5.heap.size := (by omega); have zw56 : b < w5.heap.size := (by omega); have Hvt := hide hvt; clear hvt))
   have c13 : w5.cell? ⟨wc.heap.size, 0, none⟩ = some (.map v4) := by go_simp
   obtain ⟨w6, hw6⟩ : ∃ W : World, W = w5.setCell ⟨wc.heap.size, 0, none⟩ (.map vt) := ⟨_, rfl⟩
   have hs6 : wc.heap.size + 1 ≤ w6.heap.size := by rw [hw6]; simp; omega
   have hB6 : Below wc.heap.size wc w6 := by rw [hw6]; exact ab0
   have hbc6 : ∀ x o, x < wc.heap.size → w6.cell? ⟨x, o, none⟩ = wc.cell? ⟨x, o, none⟩ := fun x o hx => hB6.cell (p := ⟨x, o, none⟩) hx
   have y0 : w6.cell? ⟨wc.heap.size, 0, none⟩ = some (.map vt) := by rw [hw6]; go_simp
   have Hv6 : Hid (VwR hs.length ⟨v4, withF a.f k h.l.length⟩ w6) := hide (Hv4.out.below hB6)
   have Hvt6 : Hid (VwV.R hs.length w6 ⟨vt, withF (fun _ => 0) k h.l.length⟩) := hide (by rw [hw6]; exact VwV.R.setCell Hvt.out c13 _)
   have p06 := (hbc6 _ 0 hzce).trans p0
   have q06 := (hbc6 _ 0 hzc).trans q0c
   have q16 := (hbc6 _ 1 hzc).trans q1c
   have q26 := (hbc6 _ 0 hzcc).trans q2c
   have r06 := (hbc6 _ 0 hzcb).trans r0c
   have r16 := (hbc6 _ 1 hzcb).trans r1c
   have fN6 : ∀ o, w6.frozen? ⟨w.heap.size, o, none⟩ = false := fun o => (hB6.frozen (p := ⟨_, o, none⟩) hzc).trans (fNc o)
   have f16 : ∀ o, w6.frozen? ⟨w.heap.size + 1 + 1, o, none⟩ = false := fun o => (hB6.frozen (p := ⟨_, o, none⟩) hzcb).trans (f1c o)
   have x06 := (hbc6 _ 0 hzca).trans x0c
   have x16 := (hbc6 _ 1 hzca).trans x1c
   have x26 := (hbc6 _ 2 hzca).trans x2c
   have hz6 : w.heap.size < w6.heap.size := by omega
   have hz6a : w.heap.size + 1 < w6.heap.size := by omega
   have hz6b : w.heap.size + 1 + 1 < w6.heap.size := by omega
   have hz6c : w.heap.size + 1 + 1 + 1 < w6.heap.size := by omega
   have hz6d : wc.heap.size < w6.heap.size := by omega
   have hz6e : B12 < w6.heap.size := by omega
   have hz6f : b < w6.heap.size := by omega
   have hB06 : Below w.heap.size w w6 := hBw.trans (hB6.mono (by omega))
   rw [← hw6]
   clear hw6 Hv4 hbc6 c13 Hvt hcc3 hff3 hcc5 hff5 hb3 hb5 p0 q0c q1c q2c x0c x1c x2c r0c r1c fNc f1c
   go_wp2_with fail
   refine wp_region_held_drew (S := (fun W => W.cell? ⟨w.heap.size, 0, none⟩ = some (.slice (some ⟨b, off, none⟩) hs.length pc) ∧ W.cell? ⟨w.heap.size + 1 + 1 + 1, 0, none⟩ = some (.slice h.A h.l.length h.cap) ∧ (W.cell? ⟨w.heap.size + 1, 0, none⟩ = some (.int .i64 x.v) ∧ W.cell? ⟨w.heap.size + 1, 1, none⟩ = some (.int .u32 x.r) ∧ W.cell? ⟨w.heap.size + 1, 2, none⟩ = some (.int .u32 x.f)) ∧ W.cell? ⟨wc.heap.size, 0, none⟩ = some (.map vt))) (by kernel_rfl) ab16 (fun hHeld => ?_)
   refine wpAnyH_take (i := 0) (v := ?_) (oi := { dst := some 41, op := Op.fieldAddr 34 (Operand.tmp 5) 0, type := 0, pos := "memory.go:103", after := #[], guard := none }) (by rfl) (by kernel_rfl) (by kernel_rfl) (by kernel_rfl) (fun _ _ _ h => h) (Or.inl ⟨by rfl, ?_⟩) (by assumption) ?_; rotate_left; focus (intro wTk hSw; (try dsimp only at hSw); go_simp; (try with_reducible rfl); done)
   (try simp only [Act.put, List.setIfInBounds_toArray, List.set_cons_zero, List.set_cons_succ])
   refine wpAnyH_take (i := 1) (v := ?_) (oi := { dst := some 42, op := Op.load 31 (Operand.tmp 41), type := 31, pos := "memory.go:103", after := #[{ on := 0, ground := Ground.data }], guard := none }) (by rfl) (by kernel_rfl) (by kernel_rfl) (by kernel_rfl) (fun _ _ _ h => h) (Or.inl ⟨by rfl, ?_⟩) (by assumption) ?_; rotate_left; focus (intro wTk hSw; (try dsimp only at hSw); go_simp; (try with_reducible rfl); done)
   (try simp only [Act.put, List.setIfInBounds_toArray, List.set_cons_zero, List.set_cons_succ])
   refine wpAnyH_take (i := 2) (v := ?_) (oi := { dst := some 43, op := Op.move (Operand.tmp 2), type := 22, pos := "memory.go:103", after := #[], guard := none }) (by rfl) (by kernel_rfl) (by kernel_rfl) (by kernel_rfl) (fun _ _ _ h => h) (Or.inl ⟨by rfl, ?_⟩) (by assumption) ?_; rotate_left; focus (intro wTk hSw; (try dsimp only at hSw); go_simp; (try with_reducible rfl); done)
   (try simp only [Act.put, List.setIfInBounds_toArray, List.set_cons_zero, List.set_cons_succ])
   refine wpAnyH_take (i := 3) (v := ?_) (oi := { dst := some 44, op := Op.move (Operand.tmp 2), type := 22, pos := "memory.go:103", after := #[], guard := none }) (by rfl) (by kernel_rfl) (by kernel_rfl) (by kernel_rfl) (fun _ _ _ h => h) (Or.inl ⟨by rfl, ?_⟩) (by assumption) ?_; rotate_left; focus (intro wTk hSw; (try dsimp only at hSw); go_simp; (try with_reducible rfl); done)
   (try simp only [Act.put, List.setIfInBounds_toArray, List.set_cons_zero, List.set_cons_succ])
   refine wpAnyH_take (i := 4) (v := ?_) (oi := { dst := some 45, op := Op.slice 31 (Operand.tmp 42) none (some (Operand.tmp 43)) (some (Operand.tmp 44)), type := 31, pos := "memory.go:103", after := #[{ on := 1, ground := Ground.data }, { on := 2, ground := Ground.data }, { on := 3, ground := Ground.data }], guard := none }) (by rfl) (by kernel_rfl) (by kernel_rfl) (by kernel_rfl) (fun _ _ _ h => h) (Or.inl ⟨by rfl, ?_⟩) (by assumption) ?_; rotate_left; focus (intro wTk hSw; (try dsimp only at hSw); go_simp; (try with_reducible rfl); done)
   (try simp only [Act.put, List.setIfInBounds_toArray, List.set_cons_zero, List.set_cons_succ])
   refine wpAnyH_take (i := 5) (v := ?_) (oi := { dst := some 46, op := Op.load 100 (Operand.tmp 11), type := 100, pos := "memory.go:103", after := #[], guard := none }) (by rfl) (by kernel_rfl) (by kernel_rfl) (by kernel_rfl) (fun _ _ _ h => h) (Or.inl ⟨by rfl, ?_⟩) (by assumption) ?_; rotate_left; focus (intro wTk hSw; (try dsimp only at hSw); go_simp; (try with_reducible rfl); done)
   (try simp only [Act.put, List.setIfInBounds_toArray, List.set_cons_zero, List.set_cons_succ])
   refine wpAnyH_take (i := 6) (v := ?_) (oi := { dst := some 47, op := Op.load 25 (Operand.tmp 8), type := 25, pos := "memory.go:103", after := #[], guard := none }) (by rfl) (by kernel_rfl) (by kernel_rfl) (by kernel_rfl) (fun _ _ _ h => h) (Or.inl ⟨by rfl, ?_⟩) (by assumption) ?_; rotate_left; focus (intro wTk hSw; (try dsimp only at hSw); go_simp; (try with_reducible rfl); done)
   (try simp only [Act.put, List.setIfInBounds_toArray, List.set_cons_zero, List.set_cons_succ])
   refine wpAnyH_take (i := 7) (v := ?_) (oi := { dst := some 48, op := Op.move (Operand.tmp 1), type := 3, pos := "memory.go:103", after := #[], guard := none }) (by rfl) (by kernel_rfl) (by kernel_rfl) (by kernel_rfl) (fun _ _ _ h => h) (Or.inl ⟨by rfl, ?_⟩) (by assumption) ?_; rotate_left; focus (intro wTk hSw; (try dsimp only at hSw); go_simp; (try with_reducible rfl); done)
   (try simp only [Act.put, List.setIfInBounds_toArray, List.set_cons_zero, List.set_cons_succ])
   refine wpAnyH_take (i := 8) (v := ?_) (oi := { dst := some 49, op := Op.load 133 (Operand.tmp 13), type := 133, pos := "memory.go:103", after := #[], guard := none }) (by rfl) (by kernel_rfl) (by kernel_rfl) (by kernel_rfl) (fun _ _ _ h => h) (Or.inl ⟨by rfl, ?_⟩) (by assumption) ?_; rotate_left; focus (intro wTk hSw; (try dsimp only at hSw); go_simp; (try with_reducible rfl); done)
   (try simp only [Act.put, List.setIfInBounds_toArray, List.set_cons_zero, List.set_cons_succ])
   refine wpAnyH_take (i := 9) (v := ?_) (oi := { dst := some 50, op := Op.build 135 #[(0, Operand.tmp 47), (1, Operand.tmp 48), (2, Operand.tmp 49)], type := 135, pos := "memory.go:103", after := #[{ on := 6, ground := Ground.data }, { on := 7, ground := Ground.data }, { on := 8, ground := Ground.data }], guard := none }) (by rfl) (by kernel_rfl) (by kernel_rfl) (by kernel_rfl) (fun _ _ _ h => h) (Or.inl ⟨by rfl, ?_⟩) (by assumption) ?_; rotate_left; focus (intro wTk hSw; (try dsimp only at hSw); go_simp; (try with_reducible rfl); done)
   (try simp only [Act.put, List.setIfInBounds_toArray, List.set_cons_zero, List.set_cons_succ])
   refine wpAnyH_ready (rs := [10]) (by kernel_rfl) (by simp) ?_
   refine AllReadyH.cons (o := { dst := some 51, op := Op.call { callee := Callee.value (Operand.func 169), args := #[Operand.tmp 46, Operand.tmp 50], argTypes := #[100, 135] }, type := 100, pos := "memory.go:103", after := #[{ on := 5, ground := Ground.data }, { on := 9, ground := Ground.data }], guard := none }) (by rfl) (fun K hK => ?_) (AllReadyH.nil)
   go_simp
   (go_at_call 169; refine (Hadd.out ⟨x, (t : Int) + 1, ⟨vt, withF (fun _ => 0) k h.l.length⟩⟩ _ (Hh.out.below ab0) (Hvt6.out.below ab0)).mono ?_; rintro e w7 ⟨g7, c7, rfl, hg7, hh7, hb7'⟩; (try simp at hg7); have hb7 : Below _ _ w7 := (by first | with_reducible exact noDrew hb7' | exact hb7'); have hsw7 := (hb7).size; (try simp at hsw7); have Hh7 := hide hh7; clear hh7; obtain ⟨hcc7, hff7⟩ := bcell hb7; have hz7 : w.heap.size < w7.heap.size := (by omega); have hz7a : w.heap.size + 1 < w7.heap.size := (by omega); have hz7b : w.heap.size + 1 + 1 < w7.heap.size := (by omega); have hz7c : w.heap.size + 1 + 1 + 1 < w7.heap.size := (by omega); have hz7d : wc.heap.size < w7.heap.size := (by omega); have hz7e : B12 < w7.heap.size := (by omega); have hz7f : b < w7.heap.size := (by omega))
   go_wp2_with fail
   refine hK.out _ _ ab16 (fun hHeld => ?_)
   clear hK K
   (try simp only [Act.put, List.setIfInBounds_toArray, List.set_cons_zero, List.set_cons_succ])
   refine wpAnyH_ready (rs := [11]) (by kernel_rfl) (by simp) ?_
   refine AllReadyH.cons (o := { dst := some 52, op := Op.buildSlice 31 1 #[(0, Operand.tmp 51)], type := 31, pos := "memory.go:103", after := #[{ on := 10, ground := Ground.data }], guard := none }) (by rfl) (fun K hK => ?_) (AllReadyH.nil)
   go_simp
   skip
   go_wp2_with fail
   refine hK.out _ _ ab16 (fun hHeld => ?_)
   clear hK K
   (try simp only [Act.put, List.setIfInBounds_toArray, List.set_cons_zero, List.set_cons_succ])
   refine wpAnyH_ready (rs := [12]) (by kernel_rfl) (by simp) ?_
   refine AllReadyH.cons (o := { dst := some 53, op := Op.call { callee := Callee.builtin Builtin.append, args := #[Operand.tmp 45, Operand.tmp 52], argTypes := #[31, 31] }, type := 31, pos := "memory.go:103", after := #[{ on := 4, ground := Ground.data }, { on := 11, ground := Ground.data }, { on := 10, ground := Ground.chain }], guard := none }) (by rfl) (fun K hK => ?_) (AllReadyH.nil)
   refine wp_append_one (.tmp 45) (.tmp 52) 31 rfl 100 i0 _ 1 24 Tryz.underlying31 hi.out iz0.out iz1.out iz2.out rfl w.heap.size (some ⟨b, off, none⟩) k ((hs.take k).map histv) (by simp [Act.eval, Act.put]) (hRk.out.below ab0) (fun e => by cases e) ⟨w7.heap.size, 0, none⟩ 1 [histv ⟨some ⟨g7, 0, none⟩, c7, h.l ++ [⟨x, (t : Int) + 1, ⟨vt, withF (fun _ => 0) k h.l.length⟩⟩]⟩] (by simp [Act.eval, Act.put]) rfl ?_ (by unfold maxLen; omega) (by omega) ?_; (focus (intro j u hu; refine alloc_cell _ _ _ (by simp) ?_; simpa [histv] using hu)); intro cp8 w8 how8 hb8' hz8; have hb8 : Below _ _ w8 := (by first | with_reducible exact noDrew hb8' | exact hb8'); have hsw8 := (hb8).size; (try simp at hsw8); obtain ⟨hcc8, hff8⟩ := bcell hb8; have hz8 : w.heap.size < w8.heap.size := (by omega); have hz8a : w.heap.size + 1 < w8.heap.size := (by omega); have hz8b : w.heap.size + 1 + 1 < w8.heap.size := (by omega); have hz8c : w.heap.size + 1 + 1 + 1 < w8.heap.size := (by omega); have hz8d : wc.heap.size < w8.heap.size := (by omega); have hz8e : B12 < w8.heap.size := (by omega); have hz8f : b < w8.heap.size := (by omega)
   (try go_simp)
   skip
   go_wp2_with fail
   refine hK.out _ _ ab16 (fun hHeld => ?_)
   clear hK K
   (try simp only [Act.put, List.setIfInBounds_toArray, List.set_cons_zero, List.set_cons_succ])
   refine wpAnyH_take (i := 13) (v := ?_) (oi := { dst := some 15, op := Op.assign (Operand.tmp 53), type := 31, pos := "memory.go:103", after := #[{ on := 12, ground := Ground.data }, { on := 12, ground := Ground.chain }, { on := 0, ground := Ground.phase }, { on := 1, ground := Ground.phase }, { on := 2, ground := Ground.phase }, { on := 3, ground := Ground.phase }, { on := 4, ground := Ground.phase }, { on := 5, ground := Ground.phase }, { on := 6, ground := Ground.phase }, { on := 7, ground := Ground.phase }, { on := 8, ground := Ground.phase }, { on := 9, ground := Ground.phase }, { on := 10, ground := Ground.phase }, { on := 11, ground := Ground.phase }, { on := 12, ground := Ground.phase }], guard := none }) (by rfl) (by kernel_rfl) (by kernel_rfl) (by kernel_rfl) (fun _ _ _ h => h) (Or.inl ⟨by rfl, ?_⟩) (by assumption) ?_; rotate_left; focus (intro wTk hSw; (try dsimp only at hSw); go_simp; (try with_reducible rfl); done)
   (try simp only [Act.put, List.setIfInBounds_toArray, List.set_cons_zero, List.set_cons_succ])
   refine wpAnyH_done (by kernel_rfl) ?_ _
   have Hp0 := Hpc.out
   have hL6 := HL6.out
   have hnb : (k + 1 + (hs.length - (k + 1))) * 24 ≤ 140737488355328 := by omega
   have hnm : k + 1 + (hs.length - (k + 1)) ≤ maxLen := by unfold maxLen; omega
   have Hown8 := hide (by simpa using how8.out : w8.ownsRow (w7.heap.size + 1) 100 1 (.slice (some ⟨w7.heap.size + 1, 0, none⟩) (k + 1) cp8) (k + 1) ((hs.take k).map histv ++ [histv ⟨some ⟨g7, 0, none⟩, c7, h.l ++ [⟨x, (t : Int) + 1, ⟨vt, withF (fun _ => 0) k h.l.length⟩⟩]⟩]))
   have hB7 : Below w.heap.size w w7 := ab0
   have hB8 : Below w.heap.size w w8 := ab0
   have HR14 := hide (hR14.out.below hB8)
   have hone : ∀ u ∈ (hs.drop (k + 1)).map histv, u.oneCell' = true := by
     intro u hu
     obtain ⟨y, -, rfl⟩ := List.mem_map.1 hu
     rfl
   have hlen : k + 1 + (hs.length - (k + 1)) = hs.length := by omega
   go_wp2_with (first
     | (at_builtin; refine wpList_append_rd rfl _ _ 31 rfl (w7.heap.size + 1) 100 i0 _ 1 24 Tryz.underlying31 hi.out iz0.out iz1.out iz2.out rfl (by omega) (.slice (some ⟨w7.heap.size + 1, 0, none⟩) (k + 1) cp8) (k + 1) ((hs.take k).map histv ++ [histv ⟨some ⟨g7, 0, none⟩, c7, h.l ++ [⟨x, (t : Int) + 1, ⟨vt, withF (fun _ => 0) k h.l.length⟩⟩]⟩]) rfl Hown8.out A14 (hs.length - (k + 1)) c14 ((hs.drop (k + 1)).map histv) rfl w.heap.size HR14.out hone hnm hnb (by omega) (w7.heap.size + 1) w8 (Below.refl _ _) (Nat.le_refl _) ?_; intro v9 w9 how9 hb9 hz9; rw [hlen] at how9; obtain ⟨g9, c9, rfl, hc9, hg9, hr9⟩ := own_some how9 (by omega); clear how9; have Hr9 := hide hr9; clear hr9; have hB89 : Below w7.heap.size w7 w9 := ((Below.alloc (Below.refl w7.heap.size w7) (Nat.le_refl _) _).trans (hb8.mono (by simp))).trans (hb9.mono (by omega)); have hB69 : Below w6.heap.size w6 w9 := hb7.trans (hB89.mono hsw7); have hc69 : ∀ x o, x < w6.heap.size → w9.cell? ⟨x, o, none⟩ = w6.cell? ⟨x, o, none⟩ := (fun x o hx => hB69.cell (p := ⟨x, o, none⟩) hx); have q09 := (hc69 _ 0 hz6).trans q06; have q19 := (hc69 _ 1 hz6).trans q16; have p09 := (hc69 _ 0 hz6e).trans p06; have r09 := (hc69 _ 0 hz6b).trans r06; have r19 := (hc69 _ 1 hz6b).trans r16; have fN9 : ∀ o, w9.frozen? ⟨w.heap.size, o, none⟩ = false := (fun o => (hB69.frozen (p := ⟨_, o, none⟩) hz6).trans (fN6 o)); have f19 : ∀ o, w9.frozen? ⟨w.heap.size + 1 + 1, o, none⟩ = false := (fun o => (hB69.frozen (p := ⟨_, o, none⟩) hz6b).trans (f16 o)); have hB09 : Below w.heap.size w w9 := hB06.trans (hB69.mono (by omega)); have n12 : ¬ B12 = w.heap.size := (by omega); have n13 : ¬ w.heap.size = B12 := (by omega); clear hc69 hcc7 hff7 hcc8 hff8 q06 q16 p06 r06 r16 fN6 f16; have ng9 : w.heap.size ≠ g9 := (by omega); have ng7 : w.heap.size ≠ g7 := (by omega); have hB10 : Below w.heap.size w (w9.setCell ⟨w.heap.size, 0, none⟩ (.slice (some ⟨g9, 0, none⟩) hs.length c9)) := hB09.setCell (p := ⟨w.heap.size, 0, none⟩) (Nat.le_refl _) _; have hrd10 : Rd (w9.setCell ⟨w.heap.size, 0, none⟩ (.slice (some ⟨g9, 0, none⟩) hs.length c9)) (w9.setCell ⟨w.heap.size, 0, none⟩ (.slice (some ⟨g9, 0, none⟩) hs.length c9)).heap.size 1 (some ⟨g9, 0, none⟩) hs.length ((hs.take k).map histv ++ [histv ⟨some ⟨g7, 0, none⟩, c7, h.l ++ [⟨x, (t : Int) + 1, ⟨vt, withF (fun _ => 0) k h.l.length⟩⟩]⟩] ++ (hs.drop (k + 1)).map histv) := Rd.more (Rd.set_far Hr9.out ng9 _) (by simp); have hh10 : HistV.R hs.length (w9.setCell ⟨w.heap.size, 0, none⟩ (.slice (some ⟨g9, 0, none⟩) hs.length c9)) ⟨some ⟨g7, 0, none⟩, c7, h.l ++ [⟨x, (t : Int) + 1, ⟨vt, withF (fun _ => 0) k h.l.length⟩⟩]⟩ := histR_set (Hh7.out.below hB89) rfl ng7 (HasC.of q09) _; have HM : Hid (MemV.R (w9.setCell ⟨w.heap.size, 0, none⟩ (.slice (some ⟨g9, 0, none⟩) hs.length c9)) ⟨some ⟨g9, 0, none⟩, c9, hs.set k ⟨some ⟨g7, 0, none⟩, c7, h.l ++ [⟨x, (t : Int) + 1, ⟨vt, withF (fun _ => 0) k h.l.length⟩⟩]⟩, vA, vc, vs⟩) := hide (mem_put (m := ⟨some ⟨b, off, none⟩, pc, hs, vA, vc, vs⟩) (k := k) (n := hs.length) (h' := ⟨some ⟨g7, 0, none⟩, c7, h.l ++ [⟨x, (t : Int) + 1, ⟨vt, withF (fun _ => 0) k h.l.length⟩⟩]⟩) HR.out hB10 (Eq.refl _) hkn hrd10 (Eq.refl _) hc9 hh10); have Hrd10 := hide hrd10; have Hh10 := hide hh10; clear hrd10 hh10; have HV10 : Hid (VwR hs.length ⟨v4, withF a.f k h.l.length⟩ (w9.setCell ⟨w.heap.size, 0, none⟩ (.slice (some ⟨g9, 0, none⟩) hs.length c9))) := hide ((Hv6.out.below hB69).set (HasC.of q09) _))
     | (go_at_call 170; refine (Hmw.out _ _ _ ⟨v4, _⟩ _ HM.out (by simp) HV10.out).mono ?_; rintro e wE ⟨G, rfl, hG, hmE, hbE⟩; (try simp at hG); have HrdE := hide ((Hrd10.out.below hbE).more hbE.size); have HhE := hide (Hh10.out.below hbE); have HvE : Hid (NewV hs.length G vs.length (vs.set t ⟨v4, withF a.f k h.l.length⟩) ⟨v4, withF a.f k h.l.length⟩ wE) := hide (by have q := NewV.of (m := ⟨some ⟨g9, 0, none⟩, c9, hs.set k ⟨some ⟨g7, 0, none⟩, c7, h.l ++ [⟨x, (t : Int) + 1, ⟨vt, withF (fun _ => 0) k h.l.length⟩⟩]⟩, vA, vc, vs⟩) rfl htn hmE; simp only [List.length_set] at q; exact q); clear hmE; have hsE := hbE.size; (try simp at hsE); have hzE : w.heap.size + 1 + 1 < w9.heap.size := (by omega); have hBE : Below w.heap.size w wE := hB10.trans (hbE.mono (by simp; omega)); obtain ⟨hccE, hffE⟩ := bcell hbE))
   have sE0 : wE.cell? ⟨w.heap.size + 1 + 1, 0, none⟩ = some (.slice none 0 0) := by go_simp
   have sE1 : wE.cell? ⟨w.heap.size + 1 + 1, 1, none⟩ = some (.slice none 0 0) := by go_simp
   have ng9' : w.heap.size + 1 + 1 ≠ g9 := by omega
   have ng7' : w.heap.size + 1 + 1 ≠ g7 := by omega
   have ngG : w.heap.size + 1 + 1 ≠ G := by omega
   have hGw : w.heap.size ≤ G := by omega
   have hgw9 : w.heap.size ≤ g9 := by omega
   have hgw7 : w.heap.size ≤ g7 := by omega
   have hBZ : Below w.heap.size w ((wE.setCell ⟨w.heap.size + 1 + 1, 0, none⟩ (.slice (some ⟨g9, 0, none⟩) hs.length c9)).setCell ⟨w.heap.size + 1 + 1, 1, none⟩ (.slice (some ⟨G, 0, none⟩) vs.length vs.length)) := Below.setCell (Below.setCell hBE ab5 _) ab5 _
   have hrdZ : Rd ((wE.setCell ⟨w.heap.size + 1 + 1, 0, none⟩ (.slice (some ⟨g9, 0, none⟩) hs.length c9)).setCell ⟨w.heap.size + 1 + 1, 1, none⟩ (.slice (some ⟨G, 0, none⟩) vs.length vs.length)) ((wE.setCell ⟨w.heap.size + 1 + 1, 0, none⟩ (.slice (some ⟨g9, 0, none⟩) hs.length c9)).setCell ⟨w.heap.size + 1 + 1, 1, none⟩ (.slice (some ⟨G, 0, none⟩) vs.length vs.length)).heap.size 1 (some ⟨g9, 0, none⟩) hs.length ((hs.take k).map histv ++ [histv ⟨some ⟨g7, 0, none⟩, c7, h.l ++ [⟨x, (t : Int) + 1, ⟨vt, withF (fun _ => 0) k h.l.length⟩⟩]⟩] ++ (hs.drop (k + 1)).map histv) := Rd.more (Rd.set_far (Rd.set_far HrdE.out ng9' _) ng9' _) (by simp)
   have hhZ : HistV.R hs.length ((wE.setCell ⟨w.heap.size + 1 + 1, 0, none⟩ (.slice (some ⟨g9, 0, none⟩) hs.length c9)).setCell ⟨w.heap.size + 1 + 1, 1, none⟩ (.slice (some ⟨G, 0, none⟩) vs.length vs.length)) ⟨some ⟨g7, 0, none⟩, c7, h.l ++ [⟨x, (t : Int) + 1, ⟨vt, withF (fun _ => 0) k h.l.length⟩⟩]⟩ := histR_set (histR_set HhE.out rfl ng7' (HasC.of sE0) _) rfl ng7' (HasC.set (HasC.of sE1) _) _
   have hvZ := NewV.set (NewV.set HvE.out ngG (HasC.of sE0) (.slice (some ⟨g9, 0, none⟩) hs.length c9)) ngG (HasC.set (HasC.of sE1) _) (.slice (some ⟨G, 0, none⟩) vs.length vs.length)
   have hMZ : MemV.R ((wE.setCell ⟨w.heap.size + 1 + 1, 0, none⟩ (.slice (some ⟨g9, 0, none⟩) hs.length c9)).setCell ⟨w.heap.size + 1 + 1, 1, none⟩ (.slice (some ⟨G, 0, none⟩) vs.length vs.length)) ⟨some ⟨g9, 0, none⟩, c9, hs.set k ⟨some ⟨g7, 0, none⟩, c7, h.l ++ [⟨x, (t : Int) + 1, ⟨vt, withF (fun _ => 0) k h.l.length⟩⟩]⟩, vA, vc, vs⟩ := mem_put (m := ⟨some ⟨b, off, none⟩, pc, hs, vA, vc, vs⟩) (k := k) (n := hs.length) (h' := ⟨some ⟨g7, 0, none⟩, c7, h.l ++ [⟨x, (t : Int) + 1, ⟨vt, withF (fun _ => 0) k h.l.length⟩⟩]⟩) HR.out hBZ (Eq.refl _) hkn hrdZ (Eq.refl _) hc9 hhZ
   have HMZ := hide (MemV.with_R (g := G) (t := t) (n := vs.length) (a := ⟨v4, withF a.f k h.l.length⟩) hMZ (Below.refl _ _) (Eq.refl _) hvZ.rd (by show VwV.R (hs.set k ⟨some ⟨g7, 0, none⟩, c7, h.l ++ [⟨x, (t : Int) + 1, ⟨vt, withF (fun _ => 0) k h.l.length⟩⟩]⟩).length _ _; rw [List.length_set]; exact hvZ.r))
   have HBZ := hide hBZ
   clear hrdZ hhZ hvZ hMZ hBZ
   refine bodyPost_ret (v := .agg #[.slice (some ⟨g9, 0, none⟩) hs.length c9, .slice (some ⟨G, 0, none⟩) vs.length vs.length]) (by simp [results, Tryz.results153, go_sem]; (try go_simp)) rfl ⟨g9, c9, g7, c7, G, v4, vt, rfl, hgw9, hgw7, hGw, ?_, ?_⟩
   · with_reducible exact HMZ.out
   · with_reducible exact HBZ.out
end Go.Proofs.YtfdndkgjmmeafaaGreatDoor

