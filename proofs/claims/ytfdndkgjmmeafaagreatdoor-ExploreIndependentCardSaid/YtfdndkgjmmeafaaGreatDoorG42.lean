/- Package explore: choices. -/
import Derived.Laws.AppendOwn
import Derived.Test.YtfdndkgjmmeafaaGreatDoorG41
namespace Go.Proofs.YtfdndkgjmmeafaaGreatDoor
set_option linter.unusedSimpArgs false
set_option linter.unusedVariables false
open Go.RowKit Go.Maps Go.Sort
theorem cellB_drew {b o : Nat} {u : Value} {w : World} (h : CellB b o u w) : CellB b o u w.drew := h
set_option maxRecDepth 100000 in
theorem ex_choices_one (m : MachV) (t : Int) (a : AS) (w : World) (h1 : a.o ≠ 1) (h2 : a.o ≠ 2) :
    Calls Tryz.prog 47 #[(.agg #[.slice (m).mem.pA (m).mem.hs.length (m).mem.pc, .slice (m).mem.vA (m).mem.vs.length (m).mem.vc, .slice (m).ln.fA (m).ln.first.length (m).ln.fc, .slice (m).ln.lA (m).ln.logs.length (m).ln.lc, .map (m).ln.asks, .slice (m).sA (m).steps.length (m).sc, .int .i64 (m).crashes]), .int .i64 t, .agg #[.int .i64 (a).o, .int .i64 (a).l, .int .i64 (a).v, .int .u32 (a).r, .int .u32 (a).f, .int .i64 (a).v2, .int .u32 (a).r2, .int .u32 (a).f2]] w fun e w' => e = .returned (.int .i64 1) ∧ Below w.heap.size w w' := by
  have h1' : (a.o != 1) = true := by simpa using h1
  have h2' : (a.o != 2) = true := by simpa using h2
  go_enter Tryz.func47, Tryz.ntmps47
  go_wp2_with fail
  go_ret
  exact ⟨rfl, ab0⟩
/-- How many choices a thread has that reads a history of n messages and saw up to the i-th. -/
def chN (n i : Int) : Int := max 1 (n - i)
abbrev eg0 : Oper := { dst := some 18, op := Op.load 42 (Operand.tmp 3), type := 42, pos := "explore.go:33", after := #[], guard := none }
abbrev eg1 : Oper := { dst := some 19, op := Op.call { callee := Callee.value (Operand.func 55), args := #[Operand.tmp 18], argTypes := #[42] }, type := 34, pos := "explore.go:33", after := #[{ on := 0, ground := Ground.data }], guard := none }
abbrev eg2 : Oper := { dst := some 20, op := Op.fieldAddr 27 (Operand.tmp 5) 1, type := 0, pos := "explore.go:33", after := #[], guard := none }
abbrev eg3 : Oper := { dst := some 21, op := Op.load 22 (Operand.tmp 20), type := 22, pos := "explore.go:33", after := #[{ on := 2, ground := Ground.data }], guard := none }
abbrev eg4 : Oper := { dst := some 22, op := Op.call { callee := Callee.value (Operand.func 56), args := #[Operand.tmp 19, Operand.tmp 21], argTypes := #[34, 22] }, type := 140, pos := "explore.go:33", after := #[{ on := 1, ground := Ground.data }, { on := 3, ground := Ground.data }, { on := 1, ground := Ground.chain }], guard := none }
abbrev eg5 : Oper := { dst := some 17, op := Op.move (Operand.tmp 22), type := 140, pos := "explore.go:33", after := #[{ on := 4, ground := Ground.data }], guard := none }
abbrev eg6 : Oper := { dst := some 23, op := Op.extract (Operand.tmp 17) 0, type := 100, pos := "explore.go:33", after := #[{ on := 5, ground := Ground.data }], guard := none }
abbrev eg7 : Oper := { dst := some 24, op := Op.extract (Operand.tmp 17) 1, type := 4, pos := "explore.go:33", after := #[{ on := 5, ground := Ground.data }, { on := 9, ground := Ground.gcOnly Departure.lateStores }], guard := none }
abbrev eg8 : Oper := { dst := some 7, op := Op.alloc 100, type := 0, pos := "explore.go:33", after := #[], guard := none }
abbrev eg9 : Oper := { dst := none, op := Op.store 100 (Operand.tmp 7) (Operand.tmp 23), type := 0, pos := "explore.go:33", after := #[{ on := 8, ground := Ground.data }, { on := 6, ground := Ground.data }, { on := 4, ground := Ground.chain }, { on := 0, ground := Ground.phase }, { on := 1, ground := Ground.phase }, { on := 2, ground := Ground.phase }, { on := 3, ground := Ground.phase }, { on := 4, ground := Ground.phase }, { on := 5, ground := Ground.phase }, { on := 6, ground := Ground.phase }, { on := 7, ground := Ground.textOnly Departure.lateStores }, { on := 8, ground := Ground.phase }], guard := none }
abbrev eg10 : Oper := { dst := some 8, op := Op.assign (Operand.tmp 24), type := 4, pos := "explore.go:33", after := #[{ on := 7, ground := Ground.data }, { on := 9, ground := Ground.chain }, { on := 0, ground := Ground.phase }, { on := 1, ground := Ground.phase }, { on := 2, ground := Ground.phase }, { on := 3, ground := Ground.phase }, { on := 4, ground := Ground.phase }, { on := 5, ground := Ground.phase }, { on := 6, ground := Ground.phase }, { on := 7, ground := Ground.phase }, { on := 8, ground := Ground.phase }, { on := 9, ground := Ground.phase }], guard := none }
abbrev eh0 : Oper := { dst := some 27, op := Op.load 100 (Operand.tmp 7), type := 100, pos := "explore.go:37", after := #[], guard := none }
abbrev eh1 : Oper := { dst := some 28, op := Op.call { callee := Callee.value (Operand.func 57), args := #[Operand.tmp 27], argTypes := #[100] }, type := 3, pos := "explore.go:37", after := #[{ on := 0, ground := Ground.data }], guard := none }
abbrev eh2 : Oper := { dst := some 29, op := Op.load 42 (Operand.tmp 3), type := 42, pos := "explore.go:37", after := #[], guard := none }
abbrev eh3 : Oper := { dst := some 30, op := Op.call { callee := Callee.value (Operand.func 55), args := #[Operand.tmp 29], argTypes := #[42] }, type := 34, pos := "explore.go:37", after := #[{ on := 2, ground := Ground.data }, { on := 1, ground := Ground.chain }], guard := none }
abbrev eh4 : Oper := { dst := some 31, op := Op.move (Operand.tmp 1), type := 3, pos := "explore.go:37", after := #[], guard := none }
abbrev eh5 : Oper := { dst := some 32, op := Op.call { callee := Callee.value (Operand.func 60), args := #[Operand.tmp 30, Operand.tmp 31], argTypes := #[34, 3] }, type := 133, pos := "explore.go:37", after := #[{ on := 3, ground := Ground.data }, { on := 4, ground := Ground.data }, { on := 3, ground := Ground.chain }], guard := none }
abbrev eh6 : Oper := { dst := some 33, op := Op.fieldAddr 27 (Operand.tmp 5) 1, type := 0, pos := "explore.go:37", after := #[], guard := none }
abbrev eh7 : Oper := { dst := some 34, op := Op.load 22 (Operand.tmp 33), type := 22, pos := "explore.go:37", after := #[{ on := 6, ground := Ground.data }], guard := none }
abbrev eh8 : Oper := { dst := some 35, op := Op.call { callee := Callee.value (Operand.func 69), args := #[Operand.tmp 32, Operand.tmp 34], argTypes := #[133, 22] }, type := 3, pos := "explore.go:37", after := #[{ on := 5, ground := Ground.data }, { on := 7, ground := Ground.data }, { on := 5, ground := Ground.chain }], guard := none }
abbrev eh9 : Oper := { dst := some 36, op := Op.binOp BinOp.sub 3 (Operand.tmp 28) (Operand.tmp 35) 3, type := 3, pos := "explore.go:37", after := #[{ on := 1, ground := Ground.data }, { on := 8, ground := Ground.data }], guard := none }
abbrev eh10 : Oper := { dst := some 37, op := Op.call { callee := Callee.builtin Builtin.max, args := #[Operand.const (Value.int IntKind.i64 1), Operand.tmp 36], argTypes := #[3, 3] }, type := 3, pos := "explore.go:37", after := #[{ on := 9, ground := Ground.data }], guard := none }
abbrev eh11 : Oper := { dst := some 6, op := Op.assign (Operand.tmp 37), type := 3, pos := "explore.go:37", after := #[{ on := 10, ground := Ground.data }, { on := 8, ground := Ground.chain }, { on := 0, ground := Ground.phase }, { on := 1, ground := Ground.phase }, { on := 2, ground := Ground.phase }, { on := 3, ground := Ground.phase }, { on := 4, ground := Ground.phase }, { on := 5, ground := Ground.phase }, { on := 6, ground := Ground.phase }, { on := 7, ground := Ground.phase }, { on := 8, ground := Ground.phase }, { on := 9, ground := Ground.phase }, { on := 10, ground := Ground.phase }], guard := none }
set_option maxHeartbeats 4000000 in
set_option maxRecDepth 100000 in
theorem ex_choices_load (m : MachV) (t k : Nat) (h : HistV) (v : VwV) (a : AS) (w : World) (hR : m.R w) (ho : a.o = 1) (hat : a.l = k) (hh : m.mem.hs[k]? = some h) (hv : m.mem.vs[t]? = some v) (hn : m.mem.vs.length ≤ 1000) (hL : m.mem.hs.length ≤ 4096) (hl6 : h.l.length ≤ 1000000) (hf6 : ∀ z, v.f z ≤ 1000000) :
    Calls Tryz.prog 47 #[(.agg #[.slice (m).mem.pA (m).mem.hs.length (m).mem.pc, .slice (m).mem.vA (m).mem.vs.length (m).mem.vc, .slice (m).ln.fA (m).ln.first.length (m).ln.fc, .slice (m).ln.lA (m).ln.logs.length (m).ln.lc, .map (m).ln.asks, .slice (m).sA (m).steps.length (m).sc, .int .i64 (m).crashes]), .int .i64 ((t : Int) + 1), .agg #[.int .i64 (a).o, .int .i64 (a).l, .int .i64 (a).v, .int .u32 (a).r, .int .u32 (a).f, .int .i64 (a).v2, .int .u32 (a).r2, .int .u32 (a).f2]] w fun e w' => e = .returned (.int .i64 (chN h.l.length (v.f k))) ∧ Below w.heap.size w w' := by
  have hk : k < m.mem.hs.length := (List.getElem?_eq_some_iff.1 hh).1
  have hf0 : 0 ≤ v.f k := ((hR.1.2.2.2.2 v (List.mem_of_getElem? hv)).1 k).1
  have hf1 := hf6 k
  have hmm := fun W => mach_memory m W
  have hhist := fun W (h0 : m.mem.R W) => mem_history m.mem k h W h0 hh
  have hlen := fun W => hist_len h W
  have hseen := fun W (h0 : m.mem.R W) => mem_seen m.mem t v W h0 hv hn
  have hat2 := fun W (h0 : m.mem.R W) => view_at m.mem.hs.length hL v k W (h0.2.2.2.2 v (List.mem_of_getElem? hv)) (by omega) (by omega)
  have HR := hide hR.1
  have Hmm := hide hmm
  have Hhist := hide hhist
  have Hlen := hide hlen
  have Hseen := hide hseen
  have Hat := hide hat2
  have hw : IntKind.i64.wrap ((h.l.length : Int) - v.f k) = (h.l.length : Int) - v.f k := IntWalk.i64_in _ (by omega)
  obtain ⟨o, l, v1, r1, f1, v2, r2, f2⟩ := a
  simp only at ho hat
  subst ho hat
  rw [show chN h.l.length (v.f k) = max 1 ((h.l.length : Int) - v.f k) from rfl]
  clear hmm hhist hlen hseen hat2 hR hh hv hf6 hn hL hl6 hk hf0 hf1
  go_enter Tryz.func47, Tryz.ntmps47
  go_upto_region 3 with fail
  obtain ⟨w0, hw0⟩ : ∃ W : World, W = (w.alloc (.cells #[.slice (m).mem.pA (m).mem.hs.length (m).mem.pc, .slice (m).mem.vA (m).mem.vs.length (m).mem.vc, .slice (m).ln.fA (m).ln.first.length (m).ln.fc, .slice (m).ln.lA (m).ln.logs.length (m).ln.lc, .map (m).ln.asks, .slice (m).sA (m).steps.length (m).sc, .int .i64 (m).crashes] 42)).alloc (.cells #[.int .i64 1, .int .i64 k, .int .i64 v1, .int .u32 r1, .int .u32 f1, .int .i64 v2, .int .u32 r2, .int .u32 f2] 27) := ⟨_, rfl⟩
  have hB0 : Below w.heap.size w w0 := by rw [hw0]; exact ab0
  have hs0 : w0.heap.size = w.heap.size + 1 + 1 := by rw [hw0]; simp
  have hz0 : w.heap.size < w0.heap.size := by omega
  have hz1 : w.heap.size + 1 < w0.heap.size := by omega
  have d0 : w0.cell? ⟨w.heap.size + 1, 1, none⟩ = some (.int .i64 k) := by rw [hw0]; go_simp
  have HS : HX w.heap.size [.slice (m).mem.pA (m).mem.hs.length (m).mem.pc, .slice (m).mem.vA (m).mem.vs.length (m).mem.vc, .slice (m).ln.fA (m).ln.first.length (m).ln.fc, .slice (m).ln.lA (m).ln.logs.length (m).ln.lc, .map (m).ln.asks, .slice (m).sA (m).steps.length (m).sc, .int .i64 (m).crashes] (w.heap.size + 1) 1 (.int .i64 k) [] w0 := ⟨by rw [hw0]; exact (BoxC.made w #[.slice (m).mem.pA (m).mem.hs.length (m).mem.pc, .slice (m).mem.vA (m).mem.vs.length (m).mem.vc, .slice (m).ln.fA (m).ln.first.length (m).ln.fc, .slice (m).ln.lA (m).ln.logs.length (m).ln.lc, .map (m).ln.asks, .slice (m).sA (m).steps.length (m).sc, .int .i64 (m).crashes] 42).below ab0, CellB.of d0, by simp⟩
  have HB0 := hide hB0
  rw [← hw0]
  clear hw0 hB0 hs0
  go_cut [7, 8] from 17 to 24 (fun s7 s8 wx => ∃ B : Nat, s7 = .pointer (some ⟨B, 0, none⟩) ∧ w0.heap.size ≤ B ∧ B < wx.heap.size ∧ s8 = .bool true ∧ wx.cell? ⟨B, 0, none⟩ = some (.slice h.A h.l.length h.cap) ∧ Below w0.heap.size w0 wx)
  case first =>
    refine wp_region_held_drew (S := (HX w.heap.size [.slice (m).mem.pA (m).mem.hs.length (m).mem.pc, .slice (m).mem.vA (m).mem.vs.length (m).mem.vc, .slice (m).ln.fA (m).ln.first.length (m).ln.fc, .slice (m).ln.lA (m).ln.logs.length (m).ln.lc, .map (m).ln.asks, .slice (m).sA (m).steps.length (m).sc, .int .i64 (m).crashes] (w.heap.size + 1) 1 (.int .i64 k) ([]))) (by kernel_rfl) ab4 (fun hHeld => ?_)
    have hKept := hHeld; (try simp only [HX_drew] at hHeld)
    refine wpAnyH_take (i := 0) (v := ?_) (oi := eg0) (by rfl) (by kernel_rfl) (by kernel_rfl) (by kernel_rfl) (fun _ _ _ h => h) (Or.inl ⟨by rfl, ?_⟩) (by assumption) ?_; rotate_left; focus (intro wTk hSw; (try delta eg0); (try dsimp only at hSw); have kS0 := hSw.1.1 0 _ rfl; have kS1 := hSw.1.1 1 _ rfl; have kS2 := hSw.1.1 2 _ rfl; have kS3 := hSw.1.1 3 _ rfl; have kS4 := hSw.1.1 4 _ rfl; have kS5 := hSw.1.1 5 _ rfl; have kS6 := hSw.1.1 6 _ rfl; have kSc := hSw.2.1.1; go_simp; (try with_reducible rfl); done)
    (try simp only [Act.put, List.setIfInBounds_toArray, List.set_cons_zero, List.set_cons_succ])
    refine wpAnyH_take (i := 2) (v := ?_) (oi := eg2) (by rfl) (by kernel_rfl) (by kernel_rfl) (by kernel_rfl) (fun _ _ _ h => h) (Or.inl ⟨by rfl, ?_⟩) (by assumption) ?_; rotate_left; focus (intro wTk hSw; (try delta eg2); (try dsimp only at hSw); have kS0 := hSw.1.1 0 _ rfl; have kS1 := hSw.1.1 1 _ rfl; have kS2 := hSw.1.1 2 _ rfl; have kS3 := hSw.1.1 3 _ rfl; have kS4 := hSw.1.1 4 _ rfl; have kS5 := hSw.1.1 5 _ rfl; have kS6 := hSw.1.1 6 _ rfl; have kSc := hSw.2.1.1; go_simp; (try with_reducible rfl); done)
    (try simp only [Act.put, List.setIfInBounds_toArray, List.set_cons_zero, List.set_cons_succ])
    refine wpAnyH_take (i := 3) (v := ?_) (oi := eg3) (by rfl) (by kernel_rfl) (by kernel_rfl) (by kernel_rfl) (fun _ _ _ h => h) (Or.inl ⟨by rfl, ?_⟩) (by assumption) ?_; rotate_left; focus (intro wTk hSw; (try delta eg3); (try dsimp only at hSw); have kS0 := hSw.1.1 0 _ rfl; have kS1 := hSw.1.1 1 _ rfl; have kS2 := hSw.1.1 2 _ rfl; have kS3 := hSw.1.1 3 _ rfl; have kS4 := hSw.1.1 4 _ rfl; have kS5 := hSw.1.1 5 _ rfl; have kS6 := hSw.1.1 6 _ rfl; have kSc := hSw.2.1.1; go_simp; (try with_reducible rfl); done)
    (try simp only [Act.put, List.setIfInBounds_toArray, List.set_cons_zero, List.set_cons_succ])
    refine wpAnyH_ready (rs := [1, 8]) (by kernel_rfl) (by simp) ?_
    focus
      refine AllReadyH.cons (o := eg1) (by rfl) (fun K hK => ?_) (AllReadyH.cons (o := eg8) (by rfl) (fun K hK => ?_) (AllReadyH.nil))
      focus
        delta eg1
        go_simp
        (go_at_call 55; refine (Hmm.out _).mono ?_; rintro e w1 ⟨rfl, hb1'⟩; have hb1 : Below _ _ w1 := (by first | with_reducible exact noDrew hb1' | exact hb1'); have hsw1 := (hb1).size; (try simp at hsw1))
        go_wp2_with fail
        refine hK.out _ _ ab4 (fun hHeld => ?_)
        clear hK K
        (try simp only [Act.put, List.setIfInBounds_toArray, List.set_cons_zero, List.set_cons_succ])
        have hKept := hHeld; (try simp only [HX_drew] at hHeld)
        refine wpAnyH_ready (rs := [4, 8]) (by kernel_rfl) (by simp) ?_
        focus
          refine AllReadyH.cons (o := eg4) (by rfl) (fun K hK => ?_) (AllReadyH.cons (o := eg8) (by rfl) (fun K hK => ?_) (AllReadyH.nil))
          focus
            delta eg4
            go_simp
            (go_at_call 56; refine (Hhist.out _ (HR.out.below (Below.trans HB0.out (Below.mono (B := w0.heap.size) ab0 (by omega))))).mono ?_; rintro e w2 ⟨rfl, hb2'⟩; have hb2 : Below _ _ w2 := ab15; have hsw2 := (hb2).size; (try simp at hsw2))
            go_wp2_with fail
            refine hK.out _ _ ab4 (fun hHeld => ?_)
            clear hK K
            (try simp only [Act.put, List.setIfInBounds_toArray, List.set_cons_zero, List.set_cons_succ])
            have hKept := hHeld; (try simp only [HX_drew] at hHeld)
            refine wpAnyH_take (i := 5) (v := ?_) (oi := eg5) (by rfl) (by kernel_rfl) (by kernel_rfl) (by kernel_rfl) (fun _ _ _ h => h) (Or.inl ⟨by rfl, ?_⟩) (by assumption) ?_; rotate_left; focus (intro wTk hSw; (try delta eg5); (try dsimp only at hSw); have kS0 := hSw.1.1 0 _ rfl; have kS1 := hSw.1.1 1 _ rfl; have kS2 := hSw.1.1 2 _ rfl; have kS3 := hSw.1.1 3 _ rfl; have kS4 := hSw.1.1 4 _ rfl; have kS5 := hSw.1.1 5 _ rfl; have kS6 := hSw.1.1 6 _ rfl; have kSc := hSw.2.1.1; go_simp; (try with_reducible rfl); done)
            (try simp only [Act.put, List.setIfInBounds_toArray, List.set_cons_zero, List.set_cons_succ])
            refine wpAnyH_take (i := 6) (v := ?_) (oi := eg6) (by rfl) (by kernel_rfl) (by kernel_rfl) (by kernel_rfl) (fun _ _ _ h => h) (Or.inl ⟨by rfl, ?_⟩) (by assumption) ?_; rotate_left; focus (intro wTk hSw; (try delta eg6); (try dsimp only at hSw); have kS0 := hSw.1.1 0 _ rfl; have kS1 := hSw.1.1 1 _ rfl; have kS2 := hSw.1.1 2 _ rfl; have kS3 := hSw.1.1 3 _ rfl; have kS4 := hSw.1.1 4 _ rfl; have kS5 := hSw.1.1 5 _ rfl; have kS6 := hSw.1.1 6 _ rfl; have kSc := hSw.2.1.1; go_simp; (try with_reducible rfl); done)
            (try simp only [Act.put, List.setIfInBounds_toArray, List.set_cons_zero, List.set_cons_succ])
            refine wpAnyH_take (i := 7) (v := ?_) (oi := eg7) (by rfl) (by kernel_rfl) (by kernel_rfl) (by kernel_rfl) (fun _ _ _ h => h) (Or.inl ⟨by rfl, ?_⟩) (by assumption) ?_; rotate_left; focus (intro wTk hSw; (try delta eg7); (try dsimp only at hSw); have kS0 := hSw.1.1 0 _ rfl; have kS1 := hSw.1.1 1 _ rfl; have kS2 := hSw.1.1 2 _ rfl; have kS3 := hSw.1.1 3 _ rfl; have kS4 := hSw.1.1 4 _ rfl; have kS5 := hSw.1.1 5 _ rfl; have kS6 := hSw.1.1 6 _ rfl; have kSc := hSw.2.1.1; go_simp; (try with_reducible rfl); done)
            (try simp only [Act.put, List.setIfInBounds_toArray, List.set_cons_zero, List.set_cons_succ])
            refine wpAnyH_ready (rs := [8]) (by kernel_rfl) (by simp) ?_
            refine AllReadyH.cons (o := eg8) (by rfl) (fun K hK => ?_) (AllReadyH.nil)
            delta eg8
            go_simp
            skip
            go_wp2_with fail
            refine shut_more hK (S' := (HX _ _ _ _ _ ((w2.heap.size, 1) :: _))) (fun w h => HX.pop h) ab3 (fun hHeld => ?_)
            clear hK K
            (try simp only [Act.put, List.setIfInBounds_toArray, List.set_cons_zero, List.set_cons_succ])
            have hKept := hHeld; (try simp only [HX_drew] at hHeld)
            refine wpAnyH_ready (rs := [9]) (by kernel_rfl) (by simp) ?_
            refine AllReadyH.cons (o := eg9) (by rfl) (fun K hK => ?_) (AllReadyH.nil)
            delta eg9
            have hE := hHeld.box (B := (w2.heap.size)) (n := 1) (by simp); have kf := hE.fz; obtain ⟨u0, k0⟩ := hE.at (j := 0) (by omega)
            go_simp
            skip
            go_wp2_with fail
            refine shut_more hK (S' := _) (fun w h => h) ab1 (fun hHeld => ?_)
            clear hK K
            (try simp only [Act.put, List.setIfInBounds_toArray, List.set_cons_zero, List.set_cons_succ])
            have hKept := hHeld; (try simp only [HX_drew] at hHeld)
            refine wpAnyH_take (i := 10) (v := ?_) (oi := eg10) (by rfl) (by kernel_rfl) (by kernel_rfl) (by kernel_rfl) (fun _ _ _ h => h) (Or.inl ⟨by rfl, ?_⟩) (by assumption) ?_; rotate_left; focus (intro wTk hSw; (try delta eg10); (try dsimp only at hSw); have kS0 := hSw.1.1 0 _ rfl; have kS1 := hSw.1.1 1 _ rfl; have kS2 := hSw.1.1 2 _ rfl; have kS3 := hSw.1.1 3 _ rfl; have kS4 := hSw.1.1 4 _ rfl; have kS5 := hSw.1.1 5 _ rfl; have kS6 := hSw.1.1 6 _ rfl; have kSc := hSw.2.1.1; go_simp; (try with_reducible rfl); done)
            (try simp only [Act.put, List.setIfInBounds_toArray, List.set_cons_zero, List.set_cons_succ])
            refine wpAnyH_done (by kernel_rfl) ?_ _
          rotate_left 1
          focus
            delta eg8
            go_simp
            skip
            go_wp2_with fail
            refine shut_more hK (S' := (HX _ _ _ _ _ ((w1.heap.size, 1) :: _))) (fun w h => HX.pop h) ab3 (fun hHeld => ?_)
            clear hK K
            (try simp only [Act.put, List.setIfInBounds_toArray, List.set_cons_zero, List.set_cons_succ])
            have hKept := hHeld; (try simp only [HX_drew] at hHeld)
            refine wpAnyH_ready (rs := [4]) (by kernel_rfl) (by simp) ?_
            refine AllReadyH.cons (o := eg4) (by rfl) (fun K hK => ?_) (AllReadyH.nil)
            delta eg4
            go_simp
            (go_at_call 56; refine (Hhist.out _ (HR.out.below (Below.trans HB0.out (Below.mono (B := w0.heap.size) ab0 (by omega))))).mono ?_; rintro e w2 ⟨rfl, hb2'⟩; have hb2 : Below _ _ w2 := ab15; have hsw2 := (hb2).size; (try simp at hsw2))
            go_wp2_with fail
            refine hK.out _ _ ab2 (fun hHeld => ?_)
            clear hK K
            (try simp only [Act.put, List.setIfInBounds_toArray, List.set_cons_zero, List.set_cons_succ])
            have hKept := hHeld; (try simp only [HX_drew] at hHeld)
            refine wpAnyH_take (i := 5) (v := ?_) (oi := eg5) (by rfl) (by kernel_rfl) (by kernel_rfl) (by kernel_rfl) (fun _ _ _ h => h) (Or.inl ⟨by rfl, ?_⟩) (by assumption) ?_; rotate_left; focus (intro wTk hSw; (try delta eg5); (try dsimp only at hSw); have kS0 := hSw.1.1 0 _ rfl; have kS1 := hSw.1.1 1 _ rfl; have kS2 := hSw.1.1 2 _ rfl; have kS3 := hSw.1.1 3 _ rfl; have kS4 := hSw.1.1 4 _ rfl; have kS5 := hSw.1.1 5 _ rfl; have kS6 := hSw.1.1 6 _ rfl; have kSc := hSw.2.1.1; go_simp; (try with_reducible rfl); done)
            (try simp only [Act.put, List.setIfInBounds_toArray, List.set_cons_zero, List.set_cons_succ])
            refine wpAnyH_take (i := 6) (v := ?_) (oi := eg6) (by rfl) (by kernel_rfl) (by kernel_rfl) (by kernel_rfl) (fun _ _ _ h => h) (Or.inl ⟨by rfl, ?_⟩) (by assumption) ?_; rotate_left; focus (intro wTk hSw; (try delta eg6); (try dsimp only at hSw); have kS0 := hSw.1.1 0 _ rfl; have kS1 := hSw.1.1 1 _ rfl; have kS2 := hSw.1.1 2 _ rfl; have kS3 := hSw.1.1 3 _ rfl; have kS4 := hSw.1.1 4 _ rfl; have kS5 := hSw.1.1 5 _ rfl; have kS6 := hSw.1.1 6 _ rfl; have kSc := hSw.2.1.1; go_simp; (try with_reducible rfl); done)
            (try simp only [Act.put, List.setIfInBounds_toArray, List.set_cons_zero, List.set_cons_succ])
            refine wpAnyH_take (i := 7) (v := ?_) (oi := eg7) (by rfl) (by kernel_rfl) (by kernel_rfl) (by kernel_rfl) (fun _ _ _ h => h) (Or.inl ⟨by rfl, ?_⟩) (by assumption) ?_; rotate_left; focus (intro wTk hSw; (try delta eg7); (try dsimp only at hSw); have kS0 := hSw.1.1 0 _ rfl; have kS1 := hSw.1.1 1 _ rfl; have kS2 := hSw.1.1 2 _ rfl; have kS3 := hSw.1.1 3 _ rfl; have kS4 := hSw.1.1 4 _ rfl; have kS5 := hSw.1.1 5 _ rfl; have kS6 := hSw.1.1 6 _ rfl; have kSc := hSw.2.1.1; go_simp; (try with_reducible rfl); done)
            (try simp only [Act.put, List.setIfInBounds_toArray, List.set_cons_zero, List.set_cons_succ])
            refine wpAnyH_ready (rs := [9]) (by kernel_rfl) (by simp) ?_
            refine AllReadyH.cons (o := eg9) (by rfl) (fun K hK => ?_) (AllReadyH.nil)
            delta eg9
            have hE := hHeld.box (B := (w1.heap.size)) (n := 1) (by simp); have kf := hE.fz; obtain ⟨u0, k0⟩ := hE.at (j := 0) (by omega)
            go_simp
            skip
            go_wp2_with fail
            refine shut_more hK (S' := _) (fun w h => h) ab1 (fun hHeld => ?_)
            clear hK K
            (try simp only [Act.put, List.setIfInBounds_toArray, List.set_cons_zero, List.set_cons_succ])
            have hKept := hHeld; (try simp only [HX_drew] at hHeld)
            refine wpAnyH_take (i := 10) (v := ?_) (oi := eg10) (by rfl) (by kernel_rfl) (by kernel_rfl) (by kernel_rfl) (fun _ _ _ h => h) (Or.inl ⟨by rfl, ?_⟩) (by assumption) ?_; rotate_left; focus (intro wTk hSw; (try delta eg10); (try dsimp only at hSw); have kS0 := hSw.1.1 0 _ rfl; have kS1 := hSw.1.1 1 _ rfl; have kS2 := hSw.1.1 2 _ rfl; have kS3 := hSw.1.1 3 _ rfl; have kS4 := hSw.1.1 4 _ rfl; have kS5 := hSw.1.1 5 _ rfl; have kS6 := hSw.1.1 6 _ rfl; have kSc := hSw.2.1.1; go_simp; (try with_reducible rfl); done)
            (try simp only [Act.put, List.setIfInBounds_toArray, List.set_cons_zero, List.set_cons_succ])
            refine wpAnyH_done (by kernel_rfl) ?_ _
          rotate_left 1
      rotate_left 2
      focus
        delta eg8
        go_simp
        skip
        go_wp2_with fail
        refine shut_more hK (S' := (HX _ _ _ _ _ ((w0.heap.size, 1) :: _))) (fun w h => HX.pop h) ab3 (fun hHeld => ?_)
        clear hK K
        (try simp only [Act.put, List.setIfInBounds_toArray, List.set_cons_zero, List.set_cons_succ])
        have hKept := hHeld; (try simp only [HX_drew] at hHeld)
        refine wpAnyH_ready (rs := [1]) (by kernel_rfl) (by simp) ?_
        refine AllReadyH.cons (o := eg1) (by rfl) (fun K hK => ?_) (AllReadyH.nil)
        delta eg1
        go_simp
        (go_at_call 55; refine (Hmm.out _).mono ?_; rintro e w1 ⟨rfl, hb1'⟩; have hb1 : Below _ _ w1 := (by first | with_reducible exact noDrew hb1' | exact hb1'); have hsw1 := (hb1).size; (try simp at hsw1))
        go_wp2_with fail
        refine hK.out _ _ ab2 (fun hHeld => ?_)
        clear hK K
        (try simp only [Act.put, List.setIfInBounds_toArray, List.set_cons_zero, List.set_cons_succ])
        have hKept := hHeld; (try simp only [HX_drew] at hHeld)
        refine wpAnyH_ready (rs := [4]) (by kernel_rfl) (by simp) ?_
        refine AllReadyH.cons (o := eg4) (by rfl) (fun K hK => ?_) (AllReadyH.nil)
        delta eg4
        go_simp
        (go_at_call 56; refine (Hhist.out _ (HR.out.below (Below.trans HB0.out (Below.mono (B := w0.heap.size) ab0 (by omega))))).mono ?_; rintro e w2 ⟨rfl, hb2'⟩; have hb2 : Below _ _ w2 := ab15; have hsw2 := (hb2).size; (try simp at hsw2))
        go_wp2_with fail
        refine hK.out _ _ ab2 (fun hHeld => ?_)
        clear hK K
        (try simp only [Act.put, List.setIfInBounds_toArray, List.set_cons_zero, List.set_cons_succ])
        have hKept := hHeld; (try simp only [HX_drew] at hHeld)
        refine wpAnyH_take (i := 5) (v := ?_) (oi := eg5) (by rfl) (by kernel_rfl) (by kernel_rfl) (by kernel_rfl) (fun _ _ _ h => h) (Or.inl ⟨by rfl, ?_⟩) (by assumption) ?_; rotate_left; focus (intro wTk hSw; (try delta eg5); (try dsimp only at hSw); have kS0 := hSw.1.1 0 _ rfl; have kS1 := hSw.1.1 1 _ rfl; have kS2 := hSw.1.1 2 _ rfl; have kS3 := hSw.1.1 3 _ rfl; have kS4 := hSw.1.1 4 _ rfl; have kS5 := hSw.1.1 5 _ rfl; have kS6 := hSw.1.1 6 _ rfl; have kSc := hSw.2.1.1; go_simp; (try with_reducible rfl); done)
        (try simp only [Act.put, List.setIfInBounds_toArray, List.set_cons_zero, List.set_cons_succ])
        refine wpAnyH_take (i := 6) (v := ?_) (oi := eg6) (by rfl) (by kernel_rfl) (by kernel_rfl) (by kernel_rfl) (fun _ _ _ h => h) (Or.inl ⟨by rfl, ?_⟩) (by assumption) ?_; rotate_left; focus (intro wTk hSw; (try delta eg6); (try dsimp only at hSw); have kS0 := hSw.1.1 0 _ rfl; have kS1 := hSw.1.1 1 _ rfl; have kS2 := hSw.1.1 2 _ rfl; have kS3 := hSw.1.1 3 _ rfl; have kS4 := hSw.1.1 4 _ rfl; have kS5 := hSw.1.1 5 _ rfl; have kS6 := hSw.1.1 6 _ rfl; have kSc := hSw.2.1.1; go_simp; (try with_reducible rfl); done)
        (try simp only [Act.put, List.setIfInBounds_toArray, List.set_cons_zero, List.set_cons_succ])
        refine wpAnyH_take (i := 7) (v := ?_) (oi := eg7) (by rfl) (by kernel_rfl) (by kernel_rfl) (by kernel_rfl) (fun _ _ _ h => h) (Or.inl ⟨by rfl, ?_⟩) (by assumption) ?_; rotate_left; focus (intro wTk hSw; (try delta eg7); (try dsimp only at hSw); have kS0 := hSw.1.1 0 _ rfl; have kS1 := hSw.1.1 1 _ rfl; have kS2 := hSw.1.1 2 _ rfl; have kS3 := hSw.1.1 3 _ rfl; have kS4 := hSw.1.1 4 _ rfl; have kS5 := hSw.1.1 5 _ rfl; have kS6 := hSw.1.1 6 _ rfl; have kSc := hSw.2.1.1; go_simp; (try with_reducible rfl); done)
        (try simp only [Act.put, List.setIfInBounds_toArray, List.set_cons_zero, List.set_cons_succ])
        refine wpAnyH_ready (rs := [9]) (by kernel_rfl) (by simp) ?_
        refine AllReadyH.cons (o := eg9) (by rfl) (fun K hK => ?_) (AllReadyH.nil)
        delta eg9
        have hE := hHeld.box (B := (w0.heap.size)) (n := 1) (by simp); have kf := hE.fz; obtain ⟨u0, k0⟩ := hE.at (j := 0) (by omega)
        go_simp
        skip
        go_wp2_with fail
        refine shut_more hK (S' := _) (fun w h => h) ab1 (fun hHeld => ?_)
        clear hK K
        (try simp only [Act.put, List.setIfInBounds_toArray, List.set_cons_zero, List.set_cons_succ])
        have hKept := hHeld; (try simp only [HX_drew] at hHeld)
        refine wpAnyH_take (i := 10) (v := ?_) (oi := eg10) (by rfl) (by kernel_rfl) (by kernel_rfl) (by kernel_rfl) (fun _ _ _ h => h) (Or.inl ⟨by rfl, ?_⟩) (by assumption) ?_; rotate_left; focus (intro wTk hSw; (try delta eg10); (try dsimp only at hSw); have kS0 := hSw.1.1 0 _ rfl; have kS1 := hSw.1.1 1 _ rfl; have kS2 := hSw.1.1 2 _ rfl; have kS3 := hSw.1.1 3 _ rfl; have kS4 := hSw.1.1 4 _ rfl; have kS5 := hSw.1.1 5 _ rfl; have kS6 := hSw.1.1 6 _ rfl; have kSc := hSw.2.1.1; go_simp; (try with_reducible rfl); done)
        (try simp only [Act.put, List.setIfInBounds_toArray, List.set_cons_zero, List.set_cons_succ])
        refine wpAnyH_done (by kernel_rfl) ?_ _
      rotate_left 1
    all_goals go_wp2_with fail
    all_goals go_meet
    all_goals exact ⟨_, rfl, by first | omega | (simp; done) | (simp; omega), by first | omega | (simp; done) | (simp; omega), rfl, by go_simp, ab0⟩
  case rest =>
    obtain ⟨B, rfl, hB, hBx, rfl, p0, hBc⟩ := hcut
    have hsc := hBc.size
    have HS2 : HX w.heap.size [.slice (m).mem.pA (m).mem.hs.length (m).mem.pc, .slice (m).mem.vA (m).mem.vs.length (m).mem.vc, .slice (m).ln.fA (m).ln.first.length (m).ln.fc, .slice (m).ln.lA (m).ln.logs.length (m).ln.lc, .map (m).ln.asks, .slice (m).sA (m).steps.length (m).sc, .int .i64 (m).crashes] B 0 (.slice h.A h.l.length h.cap) [] wc ∧ CellB (w.heap.size + 1) 1 (.int .i64 k) wc := ⟨⟨HS.1.below hBc, CellB.of p0, by simp⟩, HS.2.1.below hBc⟩
    have HBc := hide (HB0.out.trans (hBc.mono (by omega)))
    have hzc : w.heap.size ≤ wc.heap.size := by omega
    clear HS HB0 hBc d0 p0 hz0 hz1 hB
    go_wp2_with fail
    refine wp_region_held_drew (S := (fun W => HX w.heap.size [.slice (m).mem.pA (m).mem.hs.length (m).mem.pc, .slice (m).mem.vA (m).mem.vs.length (m).mem.vc, .slice (m).ln.fA (m).ln.first.length (m).ln.fc, .slice (m).ln.lA (m).ln.logs.length (m).ln.lc, .map (m).ln.asks, .slice (m).sA (m).steps.length (m).sc, .int .i64 (m).crashes] B 0 (.slice h.A h.l.length h.cap) ([]) W ∧ CellB (w.heap.size + 1) 1 (.int .i64 k) W)) (by kernel_rfl) ab10 (fun hHeld => ?_)
    refine wpAnyH_take (i := 0) (v := ?_) (oi := eh0) (by rfl) (by kernel_rfl) (by kernel_rfl) (by kernel_rfl) (fun _ _ _ h => h) (Or.inl ⟨by rfl, ?_⟩) (by assumption) ?_; rotate_left; focus (intro wTk hSw; (try delta eh0); (try dsimp only at hSw); have kS0 := hSw.1.1.1 0 _ rfl; have kS1 := hSw.1.1.1 1 _ rfl; have kS2 := hSw.1.1.1 2 _ rfl; have kS3 := hSw.1.1.1 3 _ rfl; have kS4 := hSw.1.1.1 4 _ rfl; have kS5 := hSw.1.1.1 5 _ rfl; have kS6 := hSw.1.1.1 6 _ rfl; have kSc := hSw.1.2.1.1; have kSd := hSw.2.1; go_simp; (try with_reducible rfl); done)
    (try simp only [Act.put, List.setIfInBounds_toArray, List.set_cons_zero, List.set_cons_succ])
    refine wpAnyH_take (i := 2) (v := ?_) (oi := eh2) (by rfl) (by kernel_rfl) (by kernel_rfl) (by kernel_rfl) (fun _ _ _ h => h) (Or.inl ⟨by rfl, ?_⟩) (by assumption) ?_; rotate_left; focus (intro wTk hSw; (try delta eh2); (try dsimp only at hSw); have kS0 := hSw.1.1.1 0 _ rfl; have kS1 := hSw.1.1.1 1 _ rfl; have kS2 := hSw.1.1.1 2 _ rfl; have kS3 := hSw.1.1.1 3 _ rfl; have kS4 := hSw.1.1.1 4 _ rfl; have kS5 := hSw.1.1.1 5 _ rfl; have kS6 := hSw.1.1.1 6 _ rfl; have kSc := hSw.1.2.1.1; have kSd := hSw.2.1; go_simp; (try with_reducible rfl); done)
    (try simp only [Act.put, List.setIfInBounds_toArray, List.set_cons_zero, List.set_cons_succ])
    refine wpAnyH_take (i := 4) (v := ?_) (oi := eh4) (by rfl) (by kernel_rfl) (by kernel_rfl) (by kernel_rfl) (fun _ _ _ h => h) (Or.inl ⟨by rfl, ?_⟩) (by assumption) ?_; rotate_left; focus (intro wTk hSw; (try delta eh4); (try dsimp only at hSw); have kS0 := hSw.1.1.1 0 _ rfl; have kS1 := hSw.1.1.1 1 _ rfl; have kS2 := hSw.1.1.1 2 _ rfl; have kS3 := hSw.1.1.1 3 _ rfl; have kS4 := hSw.1.1.1 4 _ rfl; have kS5 := hSw.1.1.1 5 _ rfl; have kS6 := hSw.1.1.1 6 _ rfl; have kSc := hSw.1.2.1.1; have kSd := hSw.2.1; go_simp; (try with_reducible rfl); done)
    (try simp only [Act.put, List.setIfInBounds_toArray, List.set_cons_zero, List.set_cons_succ])
    refine wpAnyH_take (i := 6) (v := ?_) (oi := eh6) (by rfl) (by kernel_rfl) (by kernel_rfl) (by kernel_rfl) (fun _ _ _ h => h) (Or.inl ⟨by rfl, ?_⟩) (by assumption) ?_; rotate_left; focus (intro wTk hSw; (try delta eh6); (try dsimp only at hSw); have kS0 := hSw.1.1.1 0 _ rfl; have kS1 := hSw.1.1.1 1 _ rfl; have kS2 := hSw.1.1.1 2 _ rfl; have kS3 := hSw.1.1.1 3 _ rfl; have kS4 := hSw.1.1.1 4 _ rfl; have kS5 := hSw.1.1.1 5 _ rfl; have kS6 := hSw.1.1.1 6 _ rfl; have kSc := hSw.1.2.1.1; have kSd := hSw.2.1; go_simp; (try with_reducible rfl); done)
    (try simp only [Act.put, List.setIfInBounds_toArray, List.set_cons_zero, List.set_cons_succ])
    refine wpAnyH_take (i := 7) (v := ?_) (oi := eh7) (by rfl) (by kernel_rfl) (by kernel_rfl) (by kernel_rfl) (fun _ _ _ h => h) (Or.inl ⟨by rfl, ?_⟩) (by assumption) ?_; rotate_left; focus (intro wTk hSw; (try delta eh7); (try dsimp only at hSw); have kS0 := hSw.1.1.1 0 _ rfl; have kS1 := hSw.1.1.1 1 _ rfl; have kS2 := hSw.1.1.1 2 _ rfl; have kS3 := hSw.1.1.1 3 _ rfl; have kS4 := hSw.1.1.1 4 _ rfl; have kS5 := hSw.1.1.1 5 _ rfl; have kS6 := hSw.1.1.1 6 _ rfl; have kSc := hSw.1.2.1.1; have kSd := hSw.2.1; go_simp; (try with_reducible rfl); done)
    (try simp only [Act.put, List.setIfInBounds_toArray, List.set_cons_zero, List.set_cons_succ])
    refine wpAnyH_ready (rs := [1]) (by kernel_rfl) (by simp) ?_
    refine AllReadyH.cons (o := eh1) (by rfl) (fun K hK => ?_) (AllReadyH.nil)
    delta eh1
    go_simp
    (go_at_call 57; refine (Hlen.out _).mono ?_; rintro e w3 ⟨rfl, hb3'⟩; have hb3 : Below _ _ w3 := ab13; have hsw3 := (hb3).size; (try simp at hsw3))
    go_wp2_with fail
    refine hK.out _ _ ab10 (fun hHeld => ?_)
    clear hK K
    (try simp only [Act.put, List.setIfInBounds_toArray, List.set_cons_zero, List.set_cons_succ])
    refine wpAnyH_ready (rs := [3]) (by kernel_rfl) (by simp) ?_
    refine AllReadyH.cons (o := eh3) (by rfl) (fun K hK => ?_) (AllReadyH.nil)
    delta eh3
    go_simp
    (go_at_call 55; refine (Hmm.out _).mono ?_; rintro e w4 ⟨rfl, hb4'⟩; have hb4 : Below _ _ w4 := ab8; have hsw4 := (hb4).size; (try simp at hsw4))
    go_wp2_with fail
    refine hK.out _ _ ab10 (fun hHeld => ?_)
    clear hK K
    (try simp only [Act.put, List.setIfInBounds_toArray, List.set_cons_zero, List.set_cons_succ])
    refine wpAnyH_ready (rs := [5]) (by kernel_rfl) (by simp) ?_
    refine AllReadyH.cons (o := eh5) (by rfl) (fun K hK => ?_) (AllReadyH.nil)
    delta eh5
    go_simp
    (go_at_call 60; refine (Hseen.out _ (HR.out.below (Below.trans HBc.out (Below.mono (B := wc.heap.size) ab0 (by omega))))).mono ?_; rintro e w5 ⟨rfl, hb5'⟩; have hb5 : Below _ _ w5 := ab7; have hsw5 := (hb5).size; (try simp at hsw5))
    go_wp2_with fail
    refine hK.out _ _ ab10 (fun hHeld => ?_)
    clear hK K
    (try simp only [Act.put, List.setIfInBounds_toArray, List.set_cons_zero, List.set_cons_succ])
    refine wpAnyH_ready (rs := [8]) (by kernel_rfl) (by simp) ?_
    refine AllReadyH.cons (o := eh8) (by rfl) (fun K hK => ?_) (AllReadyH.nil)
    delta eh8
    go_simp
    (go_at_call 69; refine (Hat.out _ (HR.out.below (Below.trans HBc.out (Below.mono (B := wc.heap.size) ab0 (by omega))))).mono ?_; rintro e w6 ⟨rfl, hb6'⟩; have hb6 : Below _ _ w6 := (by first | with_reducible exact noDrew hb6' | exact hb6'); have hsw6 := (hb6).size; (try simp at hsw6))
    go_wp2_with fail
    refine hK.out _ _ ab10 (fun hHeld => ?_)
    clear hK K
    (try simp only [Act.put, List.setIfInBounds_toArray, List.set_cons_zero, List.set_cons_succ])
    refine wpAnyH_take (i := 9) (v := ?_) (oi := eh9) (by rfl) (by kernel_rfl) (by kernel_rfl) (by kernel_rfl) (fun _ _ _ h => h) (Or.inl ⟨by rfl, ?_⟩) (by assumption) ?_; rotate_left; focus (intro wTk hSw; (try delta eh9); (try dsimp only at hSw); have kS0 := hSw.1.1.1 0 _ rfl; have kS1 := hSw.1.1.1 1 _ rfl; have kS2 := hSw.1.1.1 2 _ rfl; have kS3 := hSw.1.1.1 3 _ rfl; have kS4 := hSw.1.1.1 4 _ rfl; have kS5 := hSw.1.1.1 5 _ rfl; have kS6 := hSw.1.1.1 6 _ rfl; have kSc := hSw.1.2.1.1; have kSd := hSw.2.1; go_simp; (try with_reducible rfl); done)
    (try simp only [Act.put, List.setIfInBounds_toArray, List.set_cons_zero, List.set_cons_succ])
    refine wpAnyH_take (i := 10) (v := ?_) (oi := eh10) (by rfl) (by kernel_rfl) (by kernel_rfl) (by kernel_rfl) (fun _ _ _ h => h) (Or.inl ⟨by rfl, ?_⟩) (by assumption) ?_; rotate_left; focus (intro wTk hSw; (try delta eh10); (try dsimp only at hSw); have kS0 := hSw.1.1.1 0 _ rfl; have kS1 := hSw.1.1.1 1 _ rfl; have kS2 := hSw.1.1.1 2 _ rfl; have kS3 := hSw.1.1.1 3 _ rfl; have kS4 := hSw.1.1.1 4 _ rfl; have kS5 := hSw.1.1.1 5 _ rfl; have kS6 := hSw.1.1.1 6 _ rfl; have kSc := hSw.1.2.1.1; have kSd := hSw.2.1; go_simp; (try with_reducible rfl); done)
    (try simp only [Act.put, List.setIfInBounds_toArray, List.set_cons_zero, List.set_cons_succ])
    refine wpAnyH_take (i := 11) (v := ?_) (oi := eh11) (by rfl) (by kernel_rfl) (by kernel_rfl) (by kernel_rfl) (fun _ _ _ h => h) (Or.inl ⟨by rfl, ?_⟩) (by assumption) ?_; rotate_left; focus (intro wTk hSw; (try delta eh11); (try dsimp only at hSw); have kS0 := hSw.1.1.1 0 _ rfl; have kS1 := hSw.1.1.1 1 _ rfl; have kS2 := hSw.1.1.1 2 _ rfl; have kS3 := hSw.1.1.1 3 _ rfl; have kS4 := hSw.1.1.1 4 _ rfl; have kS5 := hSw.1.1.1 5 _ rfl; have kS6 := hSw.1.1.1 6 _ rfl; have kSc := hSw.1.2.1.1; have kSd := hSw.2.1; go_simp; (try with_reducible rfl); done)
    (try simp only [Act.put, List.setIfInBounds_toArray, List.set_cons_zero, List.set_cons_succ])
    refine wpAnyH_done (by kernel_rfl) ?_ _
    all_goals go_wp2_with fail
    all_goals go_ret
    all_goals exact ⟨rfl, Below.trans HBc.out (Below.mono (B := wc.heap.size) ab0 (by omega))⟩
end Go.Proofs.YtfdndkgjmmeafaaGreatDoor

namespace Go.Proofs.YtfdndkgjmmeafaaGreatDoor
set_option linter.unusedSimpArgs false
set_option linter.unusedVariables false
open Go.RowKit Go.Maps Go.Sort
theorem info_step : (Tryz.prog.info? 96).map (fun i => (i.zero, i.size, i.bytes)) = some (some (.agg #[.int .i64 0, .int .i64 0]), 2, 16) := by kernel_rfl
/-- The cells of a step. -/
def stc (p : Nat × Nat) : List Value := [.int .i64 ((p.1 : Int) + 1), .int .i64 p.2]
theorem stc_one (p : Nat × Nat) : ∀ u ∈ stc p, u.oneCell' = true := by
  intro u hu
  simp [stc] at hu
  rcases hu with rfl | rfl <;> rfl
/-- The steps of the first k threads, where thread t has (cs t) choices. -/
def stpTo (cs : List Nat) (k : Nat) : List (Nat × Nat) := (List.range k).flatMap fun t => (List.range (cs.getD t 0)).map fun c => (t, c)
theorem stpTo_succ (cs : List Nat) (k : Nat) : stpTo cs (k + 1) = stpTo cs k ++ (List.range (cs.getD k 0)).map (fun c => (k, c)) := by
  unfold stpTo
  rw [List.range_succ, List.flatMap_append]
  simp
theorem rng_succ (k c : Nat) (l : List (Nat × Nat)) : l ++ (List.range (c + 1)).map (fun c => (k, c)) = l ++ (List.range c).map (fun c => (k, c)) ++ [(k, c)] := by
  rw [List.range_succ, List.map_append, List.append_assoc]
  rfl
/-- What pending and choices tell of a thread with n choices. -/
def Pend (V : WorldV) (k n : Nat) (a : AS) : Prop := (∀ W, V.R W → Calls Tryz.prog 46 #[(.agg #[.slice ((V).M).mem.pA ((V).M).mem.hs.length ((V).M).mem.pc, .slice ((V).M).mem.vA ((V).M).mem.vs.length ((V).M).mem.vc, .slice ((V).M).ln.fA ((V).M).ln.first.length ((V).M).ln.fc, .slice ((V).M).ln.lA ((V).M).ln.logs.length ((V).M).ln.lc, .map ((V).M).ln.asks, .slice ((V).M).sA ((V).M).steps.length ((V).M).sc, .int .i64 ((V).M).crashes, .slice (V).tA (V).ts.length (V).tc, .slice (V).sA (V).ss.length (V).sc]), .int .i64 ((k : Int) + 1)] W fun e w' => e = .returned (.tuple #[.agg #[.int .i64 (a).o, .int .i64 (a).l, .int .i64 (a).v, .int .u32 (a).r, .int .u32 (a).f, .int .i64 (a).v2, .int .u32 (a).r2, .int .u32 (a).f2], .bool (decide (0 < n))]) ∧ Below W.heap.size W w')
  ∧ (0 < n → ∀ W, V.R W → Calls Tryz.prog 47 #[.agg #[.slice (V.M).mem.pA (V.M).mem.hs.length (V.M).mem.pc, .slice (V.M).mem.vA (V.M).mem.vs.length (V.M).mem.vc, .slice (V.M).ln.fA (V.M).ln.first.length (V.M).ln.fc, .slice (V.M).ln.lA (V.M).ln.logs.length (V.M).ln.lc, .map (V.M).ln.asks, .slice (V.M).sA (V.M).steps.length (V.M).sc, .int .i64 (V.M).crashes], .int .i64 ((k : Int) + 1), .agg #[.int .i64 (a).o, .int .i64 (a).l, .int .i64 (a).v, .int .u32 (a).r, .int .u32 (a).f, .int .i64 (a).v2, .int .u32 (a).r2, .int .u32 (a).f2]] W fun e w' => e = .returned (.int .i64 n) ∧ Below W.heap.size W w')
set_option maxHeartbeats 4000000 in
set_option maxRecDepth 100000 in
theorem ex_steps (V : WorldV) (cs : List Nat) (w : World) (hR : V.R w) (hl : cs.length = V.ts.length) (hn : V.ts.length ≤ 1000) (hb : ∀ k, (stpTo cs k).length ≤ 1000000) (hp : ∀ k n, cs[k]? = some n → ∃ a, Pend V k n a) :
    Calls Tryz.prog 27 #[(.agg #[.slice ((V).M).mem.pA ((V).M).mem.hs.length ((V).M).mem.pc, .slice ((V).M).mem.vA ((V).M).mem.vs.length ((V).M).mem.vc, .slice ((V).M).ln.fA ((V).M).ln.first.length ((V).M).ln.fc, .slice ((V).M).ln.lA ((V).M).ln.logs.length ((V).M).ln.lc, .map ((V).M).ln.asks, .slice ((V).M).sA ((V).M).steps.length ((V).M).sc, .int .i64 ((V).M).crashes, .slice (V).tA (V).ts.length (V).tc, .slice (V).sA (V).ss.length (V).sc])] w fun e w' => ∃ v : Value, e = .returned v ∧ w'.ownsRow w.heap.size 96 2 v (stpTo cs V.ts.length).length ((stpTo cs V.ts.length).flatMap stc) ∧ Below w.heap.size w w' := by
  obtain ⟨i0, hi, iz0, iz1, iz2⟩ := info_parts info_step
  have Hi := hide hi
  have HR := hide hR
  have Hp := hide hp
  have Hb := hide hb
  have Hl := hide hl
  clear hR hp hb hl hi
  go_enter Tryz.func27, Tryz.ntmps27
  go_wp2_with fail
  obtain ⟨w1, hw1⟩ : ∃ W : World, W = w.alloc (.cells #[.slice V.M.mem.pA V.M.mem.hs.length V.M.mem.pc, .slice V.M.mem.vA V.M.mem.vs.length V.M.mem.vc, .slice V.M.ln.fA V.M.ln.first.length V.M.ln.fc, .slice V.M.ln.lA V.M.ln.logs.length V.M.ln.lc, .map V.M.ln.asks, .slice V.M.sA V.M.steps.length V.M.sc, .int .i64 V.M.crashes, .slice V.tA V.ts.length V.tc, .slice V.sA V.ss.length V.sc] 46) := ⟨_, rfl⟩
  have hB1 : Below w.heap.size w w1 := by rw [hw1]; exact Below.alloc (Below.refl _ _) (Nat.le_refl _) _
  have hs1 : w.heap.size + 1 ≤ w1.heap.size := by rw [hw1]; simp
  have hob : w1.heap[w.heap.size]? = some (.cells #[.slice V.M.mem.pA V.M.mem.hs.length V.M.mem.pc, .slice V.M.mem.vA V.M.mem.vs.length V.M.mem.vc, .slice V.M.ln.fA V.M.ln.first.length V.M.ln.fc, .slice V.M.ln.lA V.M.ln.logs.length V.M.ln.lc, .map V.M.ln.asks, .slice V.M.sA V.M.steps.length V.M.sc, .int .i64 V.M.crashes, .slice V.tA V.ts.length V.tc, .slice V.sA V.ss.length V.sc] 46 (0, 0)) := by rw [hw1]; exact heap_new _ _ rfl
  have Hob := hide hob
  have HB1 := hide hB1
  rw [← hw1]
  clear hw1 hB1 hob
  go_loopw [3, 4] (fun v i wr => ∃ k : Nat, i = .int .i64 ((k : Int) + 1) ∧ k ≤ V.ts.length ∧ wr.ownsRow w1.heap.size 96 2 v (stpTo cs k).length ((stpTo cs k).flatMap stc) ∧ Hid (Below w1.heap.size w1 wr)) (fun _ i _ => V.ts.length + 1 - (intOf i).toNat)
  case atStart => exact ⟨0, rfl, by omega, World.ownsRow_nil _ _ _ _, hide (Below.refl _ _)⟩
  case round =>
    obtain ⟨k, rfl, hk, hown, HB⟩ := hrel
    have hzb : w.heap.size < w1.heap.size := by omega
    have hobr := (HB.out.block w.heap.size hzb).trans Hob.out
    have c0 : wr.cell? ⟨w.heap.size, 0, none⟩ = some (.slice V.M.mem.pA V.M.mem.hs.length V.M.mem.pc) := by simp [World.cell?, hobr]
    have c1 : wr.cell? ⟨w.heap.size, 1, none⟩ = some (.slice V.M.mem.vA V.M.mem.vs.length V.M.mem.vc) := by simp [World.cell?, hobr]
    have c2 : wr.cell? ⟨w.heap.size, 2, none⟩ = some (.slice V.M.ln.fA V.M.ln.first.length V.M.ln.fc) := by simp [World.cell?, hobr]
    have c3 : wr.cell? ⟨w.heap.size, 3, none⟩ = some (.slice V.M.ln.lA V.M.ln.logs.length V.M.ln.lc) := by simp [World.cell?, hobr]
    have c4 : wr.cell? ⟨w.heap.size, 4, none⟩ = some (.map V.M.ln.asks) := by simp [World.cell?, hobr]
    have c5 : wr.cell? ⟨w.heap.size, 5, none⟩ = some (.slice V.M.sA V.M.steps.length V.M.sc) := by simp [World.cell?, hobr]
    have c6 : wr.cell? ⟨w.heap.size, 6, none⟩ = some (.int .i64 V.M.crashes) := by simp [World.cell?, hobr]
    have c7 : wr.cell? ⟨w.heap.size, 7, none⟩ = some (.slice V.tA V.ts.length V.tc) := by simp [World.cell?, hobr]
    have c8 : wr.cell? ⟨w.heap.size, 8, none⟩ = some (.slice V.sA V.ss.length V.sc) := by simp [World.cell?, hobr]
    have hsr : w1.heap.size ≤ wr.heap.size := HB.out.size
    have hzr : w.heap.size < wr.heap.size := by omega
    have HRr := hide (HR.out.below (HB1.out.trans (HB.out.mono (by omega))))
    by_cases hlt : (k : Int) + 1 ≤ V.ts.length
    · have hk1 : k < V.ts.length := by omega
      obtain ⟨n, hcn⟩ : ∃ n, cs[k]? = some n := ⟨_, List.getElem?_eq_getElem (by have := Hl.out; omega)⟩
      obtain ⟨a, hp1, hp2⟩ := Hp.out k n hcn
      have hget : cs.getD k 0 = n := by rw [List.getD_eq_getElem?_getD, hcn]; rfl
      have hst := stpTo_succ cs k
      rw [hget] at hst
      have hbk := Hb.out (k + 1)
      have Hst := hide hst
      have Hown := hide hown
      have j0 : (0 : Int) ≤ (k : Int) := by omega
      by_cases h0 : 0 < n
      · have hlen2 : (stpTo cs k).length + n ≤ 1000000 := by
          rw [hst] at hbk
          simpa using hbk
        rw [decide_eq_true h0] at hp1
        have Hp1 := hide hp1
        have Hp2 := hide (hp2 h0)
        clear hp1 hp2 hst hbk hget hobr hcn hown
        go_upto_region 8 with (first
          | (go_at_call 46; refine (Hp1.out _ HRr.out).mono ?_; rintro e w2 ⟨rfl, hb2⟩; obtain ⟨hcc2, hff2⟩ := bcell hb2; have hs2 := hb2.size; have HR2 := hide (HRr.out.below hb2); have hz2 : w.heap.size < w2.heap.size := (by omega))
          | (go_at_call 47; refine (Hp2.out _ (HR2.out.below (Below.alloc (Below.refl _ _) (Nat.le_refl _) _))).mono ?_; rintro e w3 ⟨rfl, hb3⟩; have hs3 := hb3.size; (try simp at hs3)))
        have hB3 : Below w1.heap.size w1 w3 := HB.out.trans (((hb2.trans (Below.alloc (Below.refl _ _) hs2 _)).trans (hb3.mono (by simp; omega))).mono hsr)
        have HB3 := hide hB3
        have hown3 : w3.ownsRow w1.heap.size 96 2 _ (stpTo cs k).length ((stpTo cs k).flatMap stc) := own_below Hown.out ((hb2.trans (Below.alloc (Below.refl _ _) hs2 _)).trans (hb3.mono (by simp; omega)))
        clear hb2 hcc2 hff2 hb3 hB3 c0 c1 c2 c3 c4 c5 c6 c7 c8
        have hs13 : w1.heap.size ≤ w3.heap.size := HB3.out.size
        have Hown3 := hide hown3
        clear hown3
        go_loopw [3, 28] (fun v i wq => ∃ c : Nat, i = .int .i64 c ∧ c ≤ n ∧ Hid (wq.ownsRow w1.heap.size 96 2 v ((stpTo cs k).length + c) ((stpTo cs k ++ (List.range c).map (fun c => (k, c))).flatMap stc)) ∧ Hid (Below w1.heap.size w1 wq)) (fun _ i _ => n - (intOf i).toNat)
        case atStart => exact ⟨0, rfl, by omega, hide (by simpa using Hown3.out), HB3⟩
        case round =>
          obtain ⟨c, rfl, hc, Hownq, HBq⟩ := hrel
          have i1 : (0 : Int) ≤ (c : Int) := by omega
          have hsq : w1.heap.size ≤ wr.heap.size := HBq.out.size
          by_cases hltc : (c : Int) < (n : Int)
          · have hi := Hi.out
            go_wp2_with (at_builtin; (refine wpList_append_own _ rfl _ _ 93 rfl w1.heap.size 96 i0 _ 2 16 Tryz.underlying93 hi iz0 iz1 iz2 rfl (by decide) _ ((stpTo cs k).length + c) ((stpTo cs k ++ (List.range c).map (fun c => (k, c))).flatMap stc) rfl (own_below Hownq.out ab0) ⟨wr.heap.size, 0, none⟩ 1 1 (stc (k, c)) rfl rfl ?o2 ?o3 ?o4 ?o5 ?o6 ?_))
            case o2 =>
              intro j u hj
              match j, hj with
              | 0, hj => simp [stc] at hj; subst hj; simp [Addr.add]
              | 1, hj => simp [stc] at hj; subst hj; simp [Addr.add]
              | (j + 2), hj => simp [stc] at hj
            case o3 => exact stc_one _
            case o4 => unfold maxLen; omega
            case o5 => omega
            case o6 => simp; omega
            intro v' w5 hown' hg _
            have hown5 : w5.ownsRow w1.heap.size 96 2 v' ((stpTo cs k).length + (c + 1)) ((stpTo cs k ++ (List.range (c + 1)).map (fun c => (k, c))).flatMap stc) := by
              rw [rng_succ]
              simp only [List.flatMap_append, List.append_assoc, List.flatMap_cons, List.flatMap_nil, List.append_nil] at hown' ⊢
              exact hown'
            have hB5 : Below w1.heap.size w1 w5 := below_grown (HBq.out.alloc hsq _) hg (own_below Hownq.out ab0) (Nat.le_refl _) (by simp; omega)
            have Hown5 := hide hown5
            have HB5 := hide hB5
            clear hown' hg hown5 hB5 hi
            go_wp2_with fail
            first
              | exact ⟨⟨c + 1, by go_num, by omega, Hown5, HB5⟩, by simp [intOf]; omega⟩
              | ((repeat apply Exists.intro); exact ⟨⟨c + 1, by go_num, by omega, Hown5, HB5⟩, rfl⟩)
          · obtain rfl : n = c := by omega
            have Hown6 : Hid (wr.ownsRow w1.heap.size 96 2 _ (stpTo cs (k + 1)).length ((stpTo cs (k + 1)).flatMap stc)) := hide (by rw [Hst.out, List.length_append, List.length_map, List.length_range]; exact Hownq.out)
            clear Hownq
            go_wp2_with fail
            first
              | exact ⟨⟨k + 1, by go_num, by omega, Hown6.out, HBq⟩, by simp [intOf]; omega⟩
              | ((repeat apply Exists.intro); exact ⟨⟨k + 1, by go_num, by omega, Hown6.out, HBq⟩, by simp [intOf]; omega⟩)
      · obtain rfl : n = 0 := by omega
        have hst2 : stpTo cs (k + 1) = stpTo cs k := by rw [hst]; simp
        have hp1' := hp1
        rw [show decide (0 < 0) = false from rfl] at hp1'
        have Hp1 := hide hp1'
        have Hst2 := hide hst2
        clear hp1 hp2 hst hbk hget hobr hcn hown hst2 hp1' h0
        go_wp2_with (first
          | (go_at_call 46; refine (Hp1.out _ HRr.out).mono ?_; rintro e w2 ⟨rfl, hb2⟩; have Hb2 := hide hb2; have hs2 := hb2.size; clear hb2))
        have hown6 : Hid (World.ownsRow _ w1.heap.size 96 2 _ (stpTo cs (k + 1)).length ((stpTo cs (k + 1)).flatMap stc)) := hide (by rw [Hst2.out]; exact own_below Hown.out (Hb2.out.trans (Below.alloc (Below.refl _ _) hs2 (.cells #[.int .i64 (a).o, .int .i64 (a).l, .int .i64 (a).v, .int .u32 (a).r, .int .u32 (a).f, .int .i64 (a).v2, .int .u32 (a).r2, .int .u32 (a).f2] 27))))
        have hB6 := hide (HB.out.trans ((Hb2.out.trans (Below.alloc (Below.refl _ _) hs2 (.cells #[.int .i64 (a).o, .int .i64 (a).l, .int .i64 (a).v, .int .u32 (a).r, .int .u32 (a).f, .int .i64 (a).v2, .int .u32 (a).r2, .int .u32 (a).f2] 27))).mono hsr))
        first
          | exact ⟨⟨k + 1, by go_num, by omega, hown6.out, hB6⟩, by simp [intOf]; omega⟩
          | ((repeat apply Exists.intro); exact ⟨⟨k + 1, by go_num, by omega, hown6.out, hB6⟩, by simp [intOf]; omega⟩)
    · obtain rfl : V.ts.length = k := by omega
      have Hown := hide hown
      clear hown hobr
      go_wp2_with fail
      go_ret
      exact ⟨_, rfl, ownsRow_base_a Hown.out (by omega), HB1.out.trans (HB.out.mono (by omega))⟩
end Go.Proofs.YtfdndkgjmmeafaaGreatDoor

