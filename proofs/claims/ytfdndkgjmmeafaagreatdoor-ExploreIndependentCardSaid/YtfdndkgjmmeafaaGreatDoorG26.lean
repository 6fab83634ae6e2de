/- Package line: New. -/
import Derived.Test.YtfdndkgjmmeafaaGreatDoorG06
import Derived.Test.YtfdndkgjmmeafaaGreatDoorG25
namespace Go.Proofs.YtfdndkgjmmeafaaGreatDoor
set_option linter.unusedSimpArgs false
set_option linter.unusedVariables false
open Go.RowKit Go.Maps
def log0 : LogV := ⟨none, 0, [], 0⟩
theorem info_log : (Tryz.prog.info? 188).map (fun i => (i.zero, i.size, i.bytes)) = some (some (.agg #[.slice none 0 0, .int .i64 0]), 2, 32) := by kernel_rfl
theorem own_off {w : World} {base size n : Nat} {e : TypeId} {A : Option Addr} {cap : Nat} {xs : List Value} (h : w.ownsRow base e size (.slice A n cap) n xs) {C : Nat} (hC : C < base) : OffC C n A := by
  intro hn b o e1
  obtain ⟨g, cap', e2, _, hb, _⟩ := own_some h hn
  injection e2 with e2 _ _
  rw [e1] at e2
  injection e2 with e2
  injection e2 with e2 _
  omega
theorem own_cap' {w : World} {base size n : Nat} {e : TypeId} {A : Option Addr} {cap : Nat} {xs : List Value} (h : w.ownsRow base e size (.slice A n cap) n xs) : n ≤ cap ∧ (A = none → n = 0) ∧ Rd w w.heap.size size A n xs := by
  obtain ⟨A', cap', e1, h1, _⟩ := own_slice h
  injection e1 with _ _ e3
  subst e3
  obtain ⟨A2, cap2, e4, hr⟩ := Rd.of_own h
  injection e4 with e4 _ _
  subst e4
  refine ⟨h1, fun e => ?_, hr⟩
  rcases Nat.eq_zero_or_pos n with h0 | h0
  · exact h0
  · obtain ⟨g, c, e2, _⟩ := own_some h h0
    injection e2 with e2 _ _
    rw [e] at e2
    cases e2
theorem lines_made (W : World) (A : Option Addr) (fc : Nat) (g : Addr) (lc n m : Nat) (ws : List W3) (hw : ws.length = n) (h1 : n ≤ fc) (h2 : A = none → n = 0) (h3 : Rd W W.heap.size 3 A n (ws.flatMap w3c)) (h4 : m ≤ lc) (h5 : Rd W W.heap.size 2 (some g) m ((List.replicate m log0).flatMap logc)) : LinesV.R W ⟨A, fc, ws, some g, lc, List.replicate m log0, none⟩ := by
  subst hw
  refine ⟨⟨h1, h2, h3⟩, ?_, (fun e => by cases e), ?_, fun y hy => ?_⟩
  · show (List.replicate m log0).length ≤ lc
    rw [List.length_replicate]; exact h4
  · show Rd W W.heap.size 2 (some g) (List.replicate m log0).length _
    rw [List.length_replicate]; exact h5
  · rw [List.eq_of_mem_replicate hy]
    exact ⟨Nat.zero_le _, fun _ => rfl, Rd.nil _ _ _ _⟩
theorem lines_made_off {C fc lc m : Nat} {A g : Option Addr} {ws : List W3} (h1 : OffC C ws.length A) (h2 : OffC C (List.replicate m log0).length g) : LinesV.off C ⟨A, fc, ws, g, lc, List.replicate m log0, none⟩ := by
  refine ⟨h1, h2, fun y hy => ?_⟩
  rw [List.eq_of_mem_replicate hy]
  intro h
  exact absurd h (Nat.lt_irrefl 0)
set_option maxHeartbeats 4000000 in
set_option maxRecDepth 100000 in
theorem line_new (A : Option Addr) (cap n : Nat) (ws : List W3) (w : World) (hw : ws.length = n) (hr : Rd w w.heap.size 3 A n (ws.flatMap w3c)) (hA : A = none → n = 0) (hn : n ≤ 4096) :
    Calls Tryz.prog 21 #[.slice A n cap] w fun e w' => ∃ M : LinesV, e = .returned (.tuple #[(.agg #[.slice (M).fA (M).first.length (M).fc, .slice (M).lA (M).logs.length (M).lc, .map (M).asks]), .int .i64 0]) ∧ M.first = ws ∧ M.logs = List.replicate ((n + 7) / 8) log0 ∧ M.asks = none ∧ M.R w' ∧ (∀ C, C < w.heap.size → M.off C) ∧ Below w.heap.size w w' := by
  obtain ⟨i0, hi0, jz0, jz1, jz2⟩ := info_parts info_log
  have hi := hide hi0
  have iz0 := hide jz0
  have iz1 := hide jz1
  have iz2 := hide jz2
  clear hi0 jz0 jz1 jz2
  have hone : ∀ u ∈ ws.flatMap w3c, u.oneCell' = true := by
    intro u hu
    obtain ⟨y, -, hy⟩ := List.mem_flatMap.1 hu
    simp [w3c] at hy
    rcases hy with rfl | rfl | rfl <;> rfl
  have hcl := fun W (h : Rd W W.heap.size 3 A n (ws.flatMap w3c)) => clone_W A n cap (ws.flatMap w3c) W h hA hone (by omega)
  have hg : ¬ ((n : Int) > 4096) := by omega
  have hg' : ¬ ((4096 : Int) < n) := by omega
  have e1 : wrap64 ((n : Int) + 8) = (n : Int) + 8 := by unfold wrap64; omega
  have e2 : wrap64 ((n : Int) + 8 - 1) = (n : Int) + 7 := by unfold wrap64; omega
  obtain ⟨m, hm⟩ : ∃ m, m = (n + 7) / 8 := ⟨_, rfl⟩
  have hm6 : m ≤ 1000 := by omega
  have hmv : IntKind.i64.wrap ((IntKind.i64.wrap (IntKind.i64.wrap ((n : Int) + 8) - 1)).tdiv 8) = (m : Int) := by
    rw [IntWalk.i64_in ((n : Int) + 8) (by omega), show (n : Int) + 8 - 1 = (n : Int) + 7 by omega, IntWalk.i64_in ((n : Int) + 7) (by omega), Int.tdiv_eq_ediv_of_nonneg (by omega), IntWalk.i64_in _ (by omega)]
    omega
  have Hmv := hide hmv
  have Hm := hide hm
  have hx0 := made_told logc log0 2 (by omega) (Value.agg #[.slice none 0 0, .int .i64 0]).cells rfl logc_len m
  have Hx0 := hide hx0
  clear hmv hm hx0
  have Hr := hide hr
  have Hcl := hide hcl
  have Hw := hide hw
  clear hr hcl hone hA hw
  go_enter Tryz.func21, Tryz.ntmps21
  go_wp2_with fail
  have hz0 : w.heap.size < (w.alloc (.cells #[.slice none 0 0, .slice none 0 0, .map none] 39)).heap.size := by simp
  refine wp_region_held_drew (S := (fun _ => True)) (by kernel_rfl) trivial (fun hHeld => ?_)
  refine wpAnyH_take (i := 0) (v := ?_) (oi := { dst := some 8, op := Op.move (Operand.tmp 0), type := 35, pos := "line.go:44", after := #[], guard := none }) (by rfl) (by kernel_rfl) (by kernel_rfl) (by kernel_rfl) (fun _ _ _ h => h) (Or.inl ⟨by rfl, ?_⟩) (by assumption) ?_; rotate_left; focus (intro wTk hSw; (try dsimp only at hSw); go_simp; (try with_reducible rfl); done)
  (try simp only [Act.put, List.setIfInBounds_toArray, List.set_cons_zero, List.set_cons_succ])
  refine wpAnyH_take (i := 2) (v := ?_) (oi := { dst := some 10, op := Op.move (Operand.tmp 0), type := 35, pos := "line.go:44", after := #[], guard := none }) (by rfl) (by kernel_rfl) (by kernel_rfl) (by kernel_rfl) (fun _ _ _ h => h) (Or.inl ⟨by rfl, ?_⟩) (by assumption) ?_; rotate_left; focus (intro wTk hSw; (try dsimp only at hSw); go_simp; (try with_reducible rfl); done)
  (try simp only [Act.put, List.setIfInBounds_toArray, List.set_cons_zero, List.set_cons_succ])
  refine wpAnyH_take (i := 3) (v := ?_) (oi := { dst := some 11, op := Op.call { callee := Callee.builtin Builtin.len, args := #[Operand.tmp 10], argTypes := #[35] }, type := 3, pos := "line.go:44", after := #[{ on := 2, ground := Ground.data }], guard := none }) (by rfl) (by kernel_rfl) (by kernel_rfl) (by kernel_rfl) (fun _ _ _ h => h) (Or.inl ⟨by rfl, ?_⟩) (by assumption) ?_; rotate_left; focus (intro wTk hSw; (try dsimp only at hSw); go_simp; (try with_reducible rfl); done)
  (try simp only [Act.put, List.setIfInBounds_toArray, List.set_cons_zero, List.set_cons_succ])
  refine wpAnyH_take (i := 4) (v := ?_) (oi := { dst := some 12, op := Op.binOp BinOp.add 3 (Operand.tmp 11) (Operand.const (Value.int IntKind.i64 8)) 3, type := 3, pos := "line.go:44", after := #[{ on := 3, ground := Ground.data }], guard := none }) (by rfl) (by kernel_rfl) (by kernel_rfl) (by kernel_rfl) (fun _ _ _ h => h) (Or.inl ⟨by rfl, ?_⟩) (by assumption) ?_; rotate_left; focus (intro wTk hSw; (try dsimp only at hSw); go_simp; (try with_reducible rfl); done)
  (try simp only [Act.put, List.setIfInBounds_toArray, List.set_cons_zero, List.set_cons_succ])
  refine wpAnyH_take (i := 5) (v := ?_) (oi := { dst := some 13, op := Op.binOp BinOp.sub 3 (Operand.tmp 12) (Operand.const (Value.int IntKind.i64 1)) 3, type := 3, pos := "line.go:44", after := #[{ on := 4, ground := Ground.data }], guard := none }) (by rfl) (by kernel_rfl) (by kernel_rfl) (by kernel_rfl) (fun _ _ _ h => h) (Or.inl ⟨by rfl, ?_⟩) (by assumption) ?_; rotate_left; focus (intro wTk hSw; (try dsimp only at hSw); go_simp; (try with_reducible rfl); done)
  (try simp only [Act.put, List.setIfInBounds_toArray, List.set_cons_zero, List.set_cons_succ])
  refine wpAnyH_take (i := 6) (v := ?_) (oi := { dst := some 14, op := Op.binOp BinOp.quo 3 (Operand.tmp 13) (Operand.const (Value.int IntKind.i64 8)) 3, type := 3, pos := "line.go:44", after := #[{ on := 5, ground := Ground.data }], guard := none }) (by rfl) (by kernel_rfl) (by kernel_rfl) (by kernel_rfl) (fun _ _ _ h => h) (Or.inl ⟨by rfl, ?_⟩) (by assumption) ?_; rotate_left; focus (intro wTk hSw; (try dsimp only at hSw); go_simp; (try with_reducible rfl); done)
  (try simp only [Act.put, List.setIfInBounds_toArray, List.set_cons_zero, List.set_cons_succ])
  refine wpAnyH_ready (rs := [1, 7]) (by kernel_rfl) (by simp) ?_
  focus
    refine AllReadyH.cons (o := { dst := some 9, op := Op.call { callee := Callee.value (Operand.func 31), args := #[Operand.tmp 8], argTypes := #[35] }, type := 35, pos := "line.go:44", after := #[{ on := 0, ground := Ground.data }], guard := none }) (by rfl) (fun K hK => ?_) (AllReadyH.cons (o := { dst := some 15, op := Op.makeSlice 36 (Operand.tmp 14) (Operand.tmp 14), type := 36, pos := "line.go:44", after := #[{ on := 6, ground := Ground.data }, { on := 6, ground := Ground.data }], guard := none }) (by rfl) (fun K hK => ?_) (AllReadyH.nil))
    focus
      go_simp
      (go_at_call 31; refine (Hcl.out _ ((Hr.out.below ab0).more (by first | omega | (simp; done) | (simp; omega)))).mono ?_; rintro e w2 ⟨A', fc', rfl, how2, hb2'⟩; have hb2 : Below _ _ w2 := ab15; have hsw2 := (hb2).size; (try simp at hsw2); have How2 := hide how2; clear how2; obtain ⟨hcc2, hff2⟩ := bcell hb2; have hz2 : w.heap.size < w2.heap.size := (by omega))
      go_wp2_with fail
      refine hK.out _ _ trivial (fun hHeld => ?_)
      clear hK K
      (try simp only [Act.put, List.setIfInBounds_toArray, List.set_cons_zero, List.set_cons_succ])
      refine wpAnyH_ready (rs := [7]) (by kernel_rfl) (by simp) ?_
      refine AllReadyH.cons (o := { dst := some 15, op := Op.makeSlice 36 (Operand.tmp 14) (Operand.tmp 14), type := 36, pos := "line.go:44", after := #[{ on := 6, ground := Ground.data }, { on := 6, ground := Ground.data }], guard := none }) (by rfl) (fun K hK => ?_) (AllReadyH.nil)
      refine wp_make_rows (.tmp 14) (.tmp 14) 36 rfl 188 i0 _ 2 32 Tryz.underlying36 hi.out iz0.out iz1.out iz2.out .i64 .i64 m (by simp only [Act.eval, Act.put]; exact congrArg (Value.int .i64) Hmv.out) (by simp only [Act.eval, Act.put]; exact congrArg (Value.int .i64) Hmv.out) (by omega) (by unfold maxLen; omega) _ Hx0.out ?_; intro w3 how3 hb3' hz3; have hb3 : Below _ _ w3 := ab13; have hsw3 := (hb3).size; (try simp at hsw3); obtain ⟨hcc3, hff3⟩ := bcell hb3; have hz3a : w.heap.size < w3.heap.size := (by omega)
      (try go_simp)
      skip
      go_wp2_with fail
      refine hK.out _ _ trivial (fun hHeld => ?_)
      clear hK K
      (try simp only [Act.put, List.setIfInBounds_toArray, List.set_cons_zero, List.set_cons_succ])
      refine wpAnyH_take (i := 8) (v := ?_) (oi := { dst := some 16, op := Op.build 39 #[(0, Operand.tmp 9), (1, Operand.tmp 15)], type := 39, pos := "line.go:44", after := #[{ on := 1, ground := Ground.data }, { on := 7, ground := Ground.data }], guard := none }) (by rfl) (by kernel_rfl) (by kernel_rfl) (by kernel_rfl) (fun _ _ _ h => h) (Or.inl ⟨by rfl, ?_⟩) (by assumption) ?_; rotate_left; focus (intro wTk hSw; (try dsimp only at hSw); go_simp; (try with_reducible rfl); done)
      (try simp only [Act.put, List.setIfInBounds_toArray, List.set_cons_zero, List.set_cons_succ])
      refine wpAnyH_ready (rs := [9]) (by kernel_rfl) (by simp) ?_
      refine AllReadyH.cons (o := { dst := none, op := Op.store 39 (Operand.tmp 2) (Operand.tmp 16), type := 0, pos := "line.go:44", after := #[{ on := 8, ground := Ground.data }, { on := 1, ground := Ground.chain }, { on := 0, ground := Ground.phase }, { on := 1, ground := Ground.phase }, { on := 2, ground := Ground.phase }, { on := 3, ground := Ground.phase }, { on := 4, ground := Ground.phase }, { on := 5, ground := Ground.phase }, { on := 6, ground := Ground.phase }, { on := 7, ground := Ground.phase }, { on := 8, ground := Ground.phase }], guard := none }) (by rfl) (fun K hK => ?_) (AllReadyH.nil)
      go_simp
      skip
      go_wp2_with fail
      refine hK.out _ _ trivial (fun hHeld => ?_)
      clear hK K
      (try simp only [Act.put, List.setIfInBounds_toArray, List.set_cons_zero, List.set_cons_succ])
      refine wpAnyH_take (i := 10) (v := ?_) (oi := { dst := some 3, op := Op.assign (Operand.const (Value.int IntKind.i64 0)), type := 52, pos := "line.go:44", after := #[{ on := 9, ground := Ground.chain }, { on := 0, ground := Ground.phase }, { on := 1, ground := Ground.phase }, { on := 2, ground := Ground.phase }, { on := 3, ground := Ground.phase }, { on := 4, ground := Ground.phase }, { on := 5, ground := Ground.phase }, { on := 6, ground := Ground.phase }, { on := 7, ground := Ground.phase }, { on := 8, ground := Ground.phase }, { on := 9, ground := Ground.phase }], guard := none }) (by rfl) (by kernel_rfl) (by kernel_rfl) (by kernel_rfl) (fun _ _ _ h => h) (Or.inl ⟨by rfl, ?_⟩) (by assumption) ?_; rotate_left; focus (intro wTk hSw; (try dsimp only at hSw); go_simp; (try with_reducible rfl); done)
      (try simp only [Act.put, List.setIfInBounds_toArray, List.set_cons_zero, List.set_cons_succ])
      refine wpAnyH_done (by kernel_rfl) ?_ _
    rotate_left 1
    focus
      refine wp_make_rows (.tmp 14) (.tmp 14) 36 rfl 188 i0 _ 2 32 Tryz.underlying36 hi.out iz0.out iz1.out iz2.out .i64 .i64 m (by simp only [Act.eval, Act.put]; exact congrArg (Value.int .i64) Hmv.out) (by simp only [Act.eval, Act.put]; exact congrArg (Value.int .i64) Hmv.out) (by omega) (by unfold maxLen; omega) _ Hx0.out ?_; intro w3 how3 hb3' hz3; have hb3 : Below _ _ w3 := ab13; have hsw3 := (hb3).size; (try simp at hsw3); obtain ⟨hcc3, hff3⟩ := bcell hb3; have hz3a : w.heap.size < w3.heap.size := (by omega)
      (try go_simp)
      skip
      go_wp2_with fail
      refine hK.out _ _ trivial (fun hHeld => ?_)
      clear hK K
      (try simp only [Act.put, List.setIfInBounds_toArray, List.set_cons_zero, List.set_cons_succ])
      refine wpAnyH_ready (rs := [1]) (by kernel_rfl) (by simp) ?_
      refine AllReadyH.cons (o := { dst := some 9, op := Op.call { callee := Callee.value (Operand.func 31), args := #[Operand.tmp 8], argTypes := #[35] }, type := 35, pos := "line.go:44", after := #[{ on := 0, ground := Ground.data }], guard := none }) (by rfl) (fun K hK => ?_) (AllReadyH.nil)
      go_simp
      (go_at_call 31; refine (Hcl.out _ ((Hr.out.below ab0).more (by first | omega | (simp; done) | (simp; omega)))).mono ?_; rintro e w2 ⟨A', fc', rfl, how2, hb2'⟩; have hb2 : Below _ _ w2 := ab15; have hsw2 := (hb2).size; (try simp at hsw2); have How2 := hide how2; clear how2; obtain ⟨hcc2, hff2⟩ := bcell hb2; have hz2 : w.heap.size < w2.heap.size := (by omega))
      go_wp2_with fail
      refine hK.out _ _ trivial (fun hHeld => ?_)
      clear hK K
      (try simp only [Act.put, List.setIfInBounds_toArray, List.set_cons_zero, List.set_cons_succ])
      refine wpAnyH_take (i := 8) (v := ?_) (oi := { dst := some 16, op := Op.build 39 #[(0, Operand.tmp 9), (1, Operand.tmp 15)], type := 39, pos := "line.go:44", after := #[{ on := 1, ground := Ground.data }, { on := 7, ground := Ground.data }], guard := none }) (by rfl) (by kernel_rfl) (by kernel_rfl) (by kernel_rfl) (fun _ _ _ h => h) (Or.inl ⟨by rfl, ?_⟩) (by assumption) ?_; rotate_left; focus (intro wTk hSw; (try dsimp only at hSw); go_simp; (try with_reducible rfl); done)
      (try simp only [Act.put, List.setIfInBounds_toArray, List.set_cons_zero, List.set_cons_succ])
      refine wpAnyH_ready (rs := [9]) (by kernel_rfl) (by simp) ?_
      refine AllReadyH.cons (o := { dst := none, op := Op.store 39 (Operand.tmp 2) (Operand.tmp 16), type := 0, pos := "line.go:44", after := #[{ on := 8, ground := Ground.data }, { on := 1, ground := Ground.chain }, { on := 0, ground := Ground.phase }, { on := 1, ground := Ground.phase }, { on := 2, ground := Ground.phase }, { on := 3, ground := Ground.phase }, { on := 4, ground := Ground.phase }, { on := 5, ground := Ground.phase }, { on := 6, ground := Ground.phase }, { on := 7, ground := Ground.phase }, { on := 8, ground := Ground.phase }], guard := none }) (by rfl) (fun K hK => ?_) (AllReadyH.nil)
      go_simp
      skip
      go_wp2_with fail
      refine hK.out _ _ trivial (fun hHeld => ?_)
      clear hK K
      (try simp only [Act.put, List.setIfInBounds_toArray, List.set_cons_zero, List.set_cons_succ])
      refine wpAnyH_take (i := 10) (v := ?_) (oi := { dst := some 3, op := Op.assign (Operand.const (Value.int IntKind.i64 0)), type := 52, pos := "line.go:44", after := #[{ on := 9, ground := Ground.chain }, { on := 0, ground := Ground.phase }, { on := 1, ground := Ground.phase }, { on := 2, ground := Ground.phase }, { on := 3, ground := Ground.phase }, { on := 4, ground := Ground.phase }, { on := 5, ground := Ground.phase }, { on := 6, ground := Ground.phase }, { on := 7, ground := Ground.phase }, { on := 8, ground := Ground.phase }, { on := 9, ground := Ground.phase }], guard := none }) (by rfl) (by kernel_rfl) (by kernel_rfl) (by kernel_rfl) (fun _ _ _ h => h) (Or.inl ⟨by rfl, ?_⟩) (by assumption) ?_; rotate_left; focus (intro wTk hSw; (try dsimp only at hSw); go_simp; (try with_reducible rfl); done)
      (try simp only [Act.put, List.setIfInBounds_toArray, List.set_cons_zero, List.set_cons_succ])
      refine wpAnyH_done (by kernel_rfl) ?_ _
    rotate_left 1
  all_goals go_wp2_with fail
  all_goals first
    | (
      have o2 := hide (own_below How2.out hb3)
      have o3 := hide how3.out
      have hB : Below w.heap.size w (((w3.setCell ⟨w.heap.size, 0, none⟩ (.slice A' n fc')).setCell ⟨w.heap.size, 1, none⟩ (.slice (some ⟨w2.heap.size, 0, none⟩) m m)).setCell ⟨w.heap.size, 2, none⟩ (.map none)) := Below.setCell (Below.setCell (Below.setCell ((Below.alloc (Below.refl w.heap.size w) (Nat.le_refl _) _).trans ((hb2.mono (by simp)).trans (hb3.mono (by omega)))) (Nat.le_refl _) _) (Nat.le_refl _) _) (Nat.le_refl _) _
      have off2 := hide (own_off o2.out (C := w.heap.size) (by first | omega | (simp; done) | (simp; omega)))
      have off3 := hide (own_off o3.out (C := w.heap.size) (by first | omega | (simp; done) | (simp; omega)))
      obtain ⟨c2, a2, r2⟩ := own_cap' o2.out
      obtain ⟨c3, a3, r3⟩ := own_cap' o3.out
      have r2' : Rd (((w3.setCell ⟨w.heap.size, 0, none⟩ (.slice A' n fc')).setCell ⟨w.heap.size, 1, none⟩ (.slice (some ⟨w2.heap.size, 0, none⟩) m m)).setCell ⟨w.heap.size, 2, none⟩ (.map none)) (((w3.setCell ⟨w.heap.size, 0, none⟩ (.slice A' n fc')).setCell ⟨w.heap.size, 1, none⟩ (.slice (some ⟨w2.heap.size, 0, none⟩) m m)).setCell ⟨w.heap.size, 2, none⟩ (.map none)).heap.size 3 A' n (ws.flatMap w3c) := Rd.more (Rd.set_off (Rd.set_off (Rd.set_off r2 off2.out _) off2.out _) off2.out _) (by simp)
      have r3' : Rd (((w3.setCell ⟨w.heap.size, 0, none⟩ (.slice A' n fc')).setCell ⟨w.heap.size, 1, none⟩ (.slice (some ⟨w2.heap.size, 0, none⟩) m m)).setCell ⟨w.heap.size, 2, none⟩ (.map none)) (((w3.setCell ⟨w.heap.size, 0, none⟩ (.slice A' n fc')).setCell ⟨w.heap.size, 1, none⟩ (.slice (some ⟨w2.heap.size, 0, none⟩) m m)).setCell ⟨w.heap.size, 2, none⟩ (.map none)).heap.size 2 (some ⟨w2.heap.size, 0, none⟩) m ((List.replicate m log0).flatMap logc) := Rd.more (Rd.set_off (Rd.set_off (Rd.set_off r3 off3.out _) off3.out _) off3.out _) (by simp)
      have hM := hide (lines_made (((w3.setCell ⟨w.heap.size, 0, none⟩ (.slice A' n fc')).setCell ⟨w.heap.size, 1, none⟩ (.slice (some ⟨w2.heap.size, 0, none⟩) m m)).setCell ⟨w.heap.size, 2, none⟩ (.map none)) A' fc' ⟨w2.heap.size, 0, none⟩ m n m ws Hw.out c2 a2 r2' c3 r3')
      have hO : Hid (∀ C, C < w.heap.size → LinesV.off C ⟨A', fc', ws, some ⟨w2.heap.size, 0, none⟩, m, List.replicate m log0, none⟩) := hide (fun C hC => lines_made_off (Hw.out.symm ▸ own_off o2.out (C := C) (by first | omega | (simp; done) | (simp; omega))) (by rw [List.length_replicate]; exact own_off o3.out (C := C) (by first | omega | (simp; done) | (simp; omega))))
      have hBh := hide hB
      clear hB r2' r3' r2 r3
      refine bodyPost_ret (v := .tuple #[.agg #[.slice A' n fc', .slice (some ⟨w2.heap.size, 0, none⟩) m m, .map none], .int .i64 0]) (by simp [results, Tryz.results21, go_sem]; (try go_simp)) rfl ⟨⟨A', fc', ws, some ⟨w2.heap.size, 0, none⟩, m, List.replicate m log0, none⟩, (by simp only [Hw.out, List.length_replicate]), rfl, (by rw [Hm.out]), rfl, ?_, hO.out, ?_⟩
      · with_reducible exact hM.out
      · with_reducible exact hBh.out)
    | (
      have o2 := hide How2.out
      have o3 := hide (own_below (by simpa using how3.out) hb2)
      have hB : Below w.heap.size w (((w2.setCell ⟨w.heap.size, 0, none⟩ (.slice A' n fc')).setCell ⟨w.heap.size, 1, none⟩ (.slice (some ⟨w.heap.size + 1, 0, none⟩) m m)).setCell ⟨w.heap.size, 2, none⟩ (.map none)) := Below.setCell (Below.setCell (Below.setCell ((Below.alloc (Below.refl w.heap.size w) (Nat.le_refl _) _).trans ((hb3.mono (by simp)).trans (hb2.mono (by omega)))) (Nat.le_refl _) _) (Nat.le_refl _) _) (Nat.le_refl _) _
      have off2 := hide (own_off o2.out (C := w.heap.size) (by first | omega | (simp; done) | (simp; omega)))
      have off3 := hide (own_off o3.out (C := w.heap.size) (by first | omega | (simp; done) | (simp; omega)))
      obtain ⟨c2, a2, r2⟩ := own_cap' o2.out
      obtain ⟨c3, a3, r3⟩ := own_cap' o3.out
      have r2' : Rd (((w2.setCell ⟨w.heap.size, 0, none⟩ (.slice A' n fc')).setCell ⟨w.heap.size, 1, none⟩ (.slice (some ⟨w.heap.size + 1, 0, none⟩) m m)).setCell ⟨w.heap.size, 2, none⟩ (.map none)) (((w2.setCell ⟨w.heap.size, 0, none⟩ (.slice A' n fc')).setCell ⟨w.heap.size, 1, none⟩ (.slice (some ⟨w.heap.size + 1, 0, none⟩) m m)).setCell ⟨w.heap.size, 2, none⟩ (.map none)).heap.size 3 A' n (ws.flatMap w3c) := Rd.more (Rd.set_off (Rd.set_off (Rd.set_off r2 off2.out _) off2.out _) off2.out _) (by simp)
      have r3' : Rd (((w2.setCell ⟨w.heap.size, 0, none⟩ (.slice A' n fc')).setCell ⟨w.heap.size, 1, none⟩ (.slice (some ⟨w.heap.size + 1, 0, none⟩) m m)).setCell ⟨w.heap.size, 2, none⟩ (.map none)) (((w2.setCell ⟨w.heap.size, 0, none⟩ (.slice A' n fc')).setCell ⟨w.heap.size, 1, none⟩ (.slice (some ⟨w.heap.size + 1, 0, none⟩) m m)).setCell ⟨w.heap.size, 2, none⟩ (.map none)).heap.size 2 (some ⟨w.heap.size + 1, 0, none⟩) m ((List.replicate m log0).flatMap logc) := Rd.more (Rd.set_off (Rd.set_off (Rd.set_off r3 off3.out _) off3.out _) off3.out _) (by simp)
      have hM := hide (lines_made (((w2.setCell ⟨w.heap.size, 0, none⟩ (.slice A' n fc')).setCell ⟨w.heap.size, 1, none⟩ (.slice (some ⟨w.heap.size + 1, 0, none⟩) m m)).setCell ⟨w.heap.size, 2, none⟩ (.map none)) A' fc' ⟨w.heap.size + 1, 0, none⟩ m n m ws Hw.out c2 a2 r2' c3 r3')
      have hO : Hid (∀ C, C < w.heap.size → LinesV.off C ⟨A', fc', ws, some ⟨w.heap.size + 1, 0, none⟩, m, List.replicate m log0, none⟩) := hide (fun C hC => lines_made_off (Hw.out.symm ▸ own_off o2.out (C := C) (by first | omega | (simp; done) | (simp; omega))) (by rw [List.length_replicate]; exact own_off o3.out (C := C) (by first | omega | (simp; done) | (simp; omega))))
      have hBh := hide hB
      clear hB r2' r3' r2 r3
      refine bodyPost_ret (v := .tuple #[.agg #[.slice A' n fc', .slice (some ⟨w.heap.size + 1, 0, none⟩) m m, .map none], .int .i64 0]) (by simp [results, Tryz.results21, go_sem]; (try go_simp)) rfl ⟨⟨A', fc', ws, some ⟨w.heap.size + 1, 0, none⟩, m, List.replicate m log0, none⟩, (by simp only [Hw.out, List.length_replicate]), rfl, (by rw [Hm.out]), rfl, ?_, hO.out, ?_⟩
      · with_reducible exact hM.out
      · with_reducible exact hBh.out)
end Go.Proofs.YtfdndkgjmmeafaaGreatDoor

