/- Package memory: New. -/
import Derived.Test.YtfdndkgjmmeafaaGreatDoorG24
import Derived.Test.YtfdndkgjmmeafaaGreatDoorG25
import Derived.Test.YtfdndkgjmmeafaaGreatDoorG26
namespace Go.Proofs.YtfdndkgjmmeafaaGreatDoor
set_option linter.unusedSimpArgs false
set_option linter.unusedVariables false
open Go.RowKit Go.Maps
theorem info_hist2 : (Tryz.prog.info? 100).map (fun i => (i.zero, i.size, i.bytes)) = some (some (.agg #[.slice none 0 0]), 1, 24) := by kernel_rfl
theorem w3c_len' (x : W3) : (w3c x).length = 3 := rfl
theorem HRow.at {base : Nat} {v : Value} {w : World} {xs : List W3} {hs : List HistV} (h : HRow base v w xs hs) {y : HistV} (hy : y ∈ hs) : ∃ x, HNew base v w x y := by
  obtain ⟨j, hj, e⟩ := List.mem_iff_getElem.1 hy
  have h2 : hs[j]? = some y := by rw [List.getElem?_eq_getElem hj, e]
  have h3 : xs[j]? = some (xs[j]'(by rw [← h.1]; exact hj)) := List.getElem?_eq_getElem _
  exact ⟨_, h.2 j _ y h3 h2⟩
theorem mem_made {W : World} {Av : Option Addr} {capv V th n base : Nat} {v : Value} {ws : List W3} {hs : List HistV} (hrow : HRow base v W ws hs) (hl : hs.length = n) (h1 : n ≤ capv) (h2 : Av = none → n = 0) (h3 : Rd W W.heap.size 1 Av n (hs.map histv)) (h4 : Rd W W.heap.size 1 (some ⟨V, 0, none⟩) th (List.replicate th (.map none))) : MemV.R W ⟨Av, capv, hs, some ⟨V, 0, none⟩, th, List.replicate th ⟨none, fun _ => 0⟩⟩ := by
  subst hl
  refine ⟨⟨h1, h2, h3, fun y hy => ?_⟩, ?_, (fun e => by cases e), ?_, fun y hy => ?_⟩
  · obtain ⟨x, hx⟩ := hrow.at hy
    exact hx.R _
  · show (List.replicate th _).length ≤ th
    rw [List.length_replicate]; exact Nat.le_refl _
  · show Rd W W.heap.size 1 (some ⟨V, 0, none⟩) (List.replicate th (⟨none, fun _ => 0⟩ : VwV)).length ((List.replicate th (⟨none, fun _ => 0⟩ : VwV)).map vwv)
    rw [List.length_replicate, List.map_replicate]; exact h4
  · rw [List.eq_of_mem_replicate hy]
    exact VwV.R.nil _ _
theorem made_msgs {W : World} {base : Nat} {v : Value} {ws : List W3} {hs : List HistV} (hrow : HRow base v W ws hs) : hs.map HistV.l = ws.map (fun x => [msg0 x]) := by
  apply List.ext_getElem?
  intro j
  rw [List.getElem?_map, List.getElem?_map]
  by_cases hj : j < ws.length
  · have h3 : ws[j]? = some ws[j] := List.getElem?_eq_getElem hj
    have h4 : hs[j]? = some (hs[j]'(by rw [hrow.1]; exact hj)) := List.getElem?_eq_getElem _
    rw [h3, h4]
    simp only [Option.map_some]
    rw [(hrow.2 j _ _ h3 h4).l]
  · rw [List.getElem?_eq_none (l := hs) (by rw [hrow.1]; omega), List.getElem?_eq_none (l := ws) (by omega)]
    rfl
theorem mem_made_off {W : World} {Av : Option Addr} {capv V th n base C : Nat} {v : Value} {ws : List W3} {hs : List HistV} (hrow : HRow base v W ws hs) (hl : hs.length = n) (h1 : OffC C n Av) (hV : V ≠ C) (hC : C < base) : MemV.off C ⟨Av, capv, hs, some ⟨V, 0, none⟩, th, List.replicate th ⟨none, fun _ => 0⟩⟩ := by
  subst hl
  refine ⟨h1, OffC.at hV, fun y hy => ?_⟩
  obtain ⟨x, hx⟩ := hrow.at hy
  exact hx.off hC
set_option maxHeartbeats 4000000 in
set_option maxRecDepth 100000 in
theorem mem_new (th n : Nat) (A : Option Addr) (cap : Nat) (ws : List W3) (w : World) (hw : ws.length = n) (hr : Rd w w.heap.size 3 A n (ws.flatMap w3c)) (ht1 : 1 ≤ th) (ht2 : th ≤ 8) (hn1 : 1 ≤ n) (hn2 : n ≤ 4096) :
    Calls Tryz.prog 20 #[.int .i64 th, .slice A n cap] w fun e w' => ∃ M : MemV, e = .returned (.tuple #[(.agg #[.slice (M).pA (M).hs.length (M).pc, .slice (M).vA (M).vs.length (M).vc]), .int .i64 0]) ∧ M.hs.map HistV.l = ws.map (fun x => [msg0 x]) ∧ M.vs = List.replicate th ⟨none, fun _ => 0⟩ ∧ M.R w' ∧ (∀ C, C < w.heap.size → M.off C) ∧ Below w.heap.size w w' := by
  obtain ⟨i0, hi0, jz0, jz1, jz2⟩ := info_parts info_hist2
  have hi := hide hi0
  have iz0 := hide jz0
  have iz1 := hide jz1
  have iz2 := hide jz2
  obtain ⟨i1, hi1, kz0, kz1, kz2⟩ := info_parts info_view
  have hi' := hide hi1
  have iy0 := hide kz0
  have iy1 := hide kz1
  have iy2 := hide kz2
  clear hi0 jz0 jz1 jz2 hi1 kz0 kz1 kz2
  have g1 : ¬ ((th : Int) < 1) := by omega
  have g2 : ¬ ((th : Int) > 8) := by omega
  have g2' : ¬ ((8 : Int) < th) := by omega
  have g3 : ¬ ((n : Int) = 0) := by omega
  have g4 : ¬ ((n : Int) > 4096) := by omega
  have g4' : ¬ ((4096 : Int) < n) := by omega
  obtain ⟨b, off, eA, hbw, hcw⟩ := hr.2 (by omega)
  subst eA
  have Hcw := hide hcw
  have Hw := hide hw
  clear hr hw hcw
  go_enter Tryz.func20, Tryz.ntmps20
  go_wp2_with (first
    | (at_make; refine wpList_make_full _ rfl _ _ 32 rfl w.heap.size 133 i1 _ 1 Tryz.underlying32 hi'.out iy0.out iy1.out _ _ _ _ th rfl rfl rfl rfl (by rw [iy2.out]; omega) (by unfold maxLen; omega) (by first | omega | (simp; done) | (simp; omega)) ?_; intro w1 hown1 hgr1; have hb1 : Below w.heap.size w w1 := Below.grown (w := w.alloc (.cells #[.slice none 0 0, .slice none 0 0] 34)) ab0 hgr1 (by first | omega | (simp; done) | (simp; omega)) (fun k hk => by cases hk); have hs1 := hgr1.size; (try simp at hs1); obtain ⟨hlv, hfv⟩ := own_cells (by simpa using hown1); obtain ⟨-, -, hrv⟩ := own_cap' hown1; (try simp at hrv); have Hrv := hide hrv; clear hrv hown1; have r0 : w1.cell? ⟨w.heap.size, 0, none⟩ = some (.slice none 0 0) := (by refine (World.cell?_of_block (hgr1.block w.heap.size (by simp) (by simp))).trans ?_; go_simp); have r1 : w1.cell? ⟨w.heap.size, 1, none⟩ = some (.slice none 0 0) := (by refine (World.cell?_of_block (hgr1.block w.heap.size (by simp) (by simp))).trans ?_; go_simp); have f0 : ∀ o, w1.frozen? ⟨w.heap.size, o, none⟩ = false := (by intro o; refine (World.frozen?_of_block (hgr1.block w.heap.size (by simp) (by simp))).trans ?_; go_simp); clear hgr1 hlv hfv))
  obtain ⟨w2, hw2⟩ : ∃ W : World, W = w1.alloc (.cells #[.slice none 0 0, .slice (some ⟨w.heap.size + 1, 0, none⟩) th th] 34) := ⟨_, rfl⟩
  have hX2 : BoxC w1.heap.size [.slice none 0 0, .slice (some ⟨w.heap.size + 1, 0, none⟩) th th] w2 := by rw [hw2]; exact BoxC.made _ _ _
  have hB12 : Below w1.heap.size w1 w2 := by rw [hw2]; exact ab0
  have hB02 : Below w.heap.size w w2 := hb1.trans (hB12.mono (by omega))
  have hs12 : w1.heap.size + 1 ≤ w2.heap.size := by rw [hw2]; simp
  rw [← hw2]
  clear hw2
  go_loopw [32] (fun i wr => ∃ (k : Nat) (hs : List HistV) (v : Value), i = .int .i64 k ∧ k ≤ n ∧ hs.length = k ∧ BoxC w1.heap.size [v, .slice (some ⟨w.heap.size + 1, 0, none⟩) th th] wr ∧ wr.ownsRow (w1.heap.size + 1) 100 1 v k (hs.map histv) ∧ Hid (HRow (w1.heap.size + 1) v wr (ws.take k) hs) ∧ Below w1.heap.size w1 wr ∧ w1.heap.size + 1 ≤ wr.heap.size) (fun i _ => n - (intOf i).toNat)
  case atStart => exact ⟨0, [], .slice none 0 0, rfl, by omega, rfl, hX2, World.ownsRow_nil _ _ _ _, hide ⟨rfl, fun j x h hx _ => by simp at hx⟩, hB12, hs12⟩
  case round =>
    obtain ⟨k, hs, v, rfl, hk, hlk, hX, hown, hH, hB, hsr⟩ := hrel
    obtain ⟨Av, capv, rfl, hcpv, hblv⟩ := own_slice hown
    have hBr : Below w.heap.size w wr := hb1.trans (hB.mono (by omega))
    by_cases hlt : (k : Int) < n
    · obtain ⟨x, hx⟩ : ∃ x, ws[k]? = some x := ⟨_, List.getElem?_eq_getElem (by rw [Hw.out]; omega)⟩
      have hcell : ∀ j u, (w3c x)[j]? = some u → wr.cell? ⟨b, off + (k * 3 + j), none⟩ = some u := by
        intro j u hu
        have hj : j < 3 := by have := (List.getElem?_eq_some_iff.1 hu).1; exact this
        rw [hBr.cell (p := ⟨b, off + (k * 3 + j), none⟩) hbw]
        exact Hcw.out _ _ (by rw [told_at w3c_len' ws k x hx j hj]; exact hu)
      have x0 : wr.cell? ⟨b, off + k * 3, none⟩ = some (.int .i64 x.v) := hcell 0 _ rfl
      have x1 : wr.cell? ⟨b, off + k * 3 + 1, none⟩ = some (.int .u32 x.r) := hcell 1 _ rfl
      have x2 : wr.cell? ⟨b, off + k * 3 + 2, none⟩ = some (.int .u32 x.f) := hcell 2 _ rfl
      have Hx := hide hx
      clear hcell hx
      have hbr : b < wr.heap.size := by omega
      have j0 : (0 : Int) ≤ (k : Int) := by omega
      have d0 := hX.at (j := 0) rfl
      have d1 := hX.at (j := 1) rfl
      have dz : ∀ o, wr.frozen? ⟨w1.heap.size, o, none⟩ = false := hX.2.1
      have Hown := hide hown
      have HX' := hide hX
      have nk : ¬ k = n := by omega
      clear hown hX
      go_wp2_with fail
      have hz0 : w1.heap.size < wr.heap.size := by omega
      refine wp_region_held_drew (S := (fun _ => True)) (by kernel_rfl) trivial (fun hHeld => ?_)
      refine wpAnyH_take (i := 0) (v := ?_) (oi := { dst := some 36, op := Op.fieldAddr 34 (Operand.tmp 6) 0, type := 0, pos := "memory.go:28", after := #[], guard := none }) (by rfl) (by kernel_rfl) (by kernel_rfl) (by kernel_rfl) (fun _ _ _ h => h) (Or.inl ⟨by rfl, ?_⟩) (by assumption) ?_; rotate_left; focus (intro wTk hSw; (try dsimp only at hSw); go_simp; (try with_reducible rfl); done)
      (try simp only [Act.put, List.setIfInBounds_toArray, List.set_cons_zero, List.set_cons_succ])
      refine wpAnyH_ready (rs := [1, 2]) (by kernel_rfl) (by simp) ?_
      focus
        refine AllReadyH.cons (o := { dst := some 37, op := Op.load 31 (Operand.tmp 36), type := 31, pos := "memory.go:28", after := #[{ on := 0, ground := Ground.data }], guard := none }) (by rfl) (fun K hK => ?_) (AllReadyH.cons (o := { dst := some 38, op := Op.load 25 (Operand.tmp 8), type := 25, pos := "memory.go:28", after := #[], guard := none }) (by rfl) (fun K hK => ?_) (AllReadyH.nil))
        focus
          go_simp
          skip
          go_wp2_with fail
          refine hK.out _ _ trivial (fun hHeld => ?_)
          clear hK K
          (try simp only [Act.put, List.setIfInBounds_toArray, List.set_cons_zero, List.set_cons_succ])
          refine wpAnyH_ready (rs := [2]) (by kernel_rfl) (by simp) ?_
          refine AllReadyH.cons (o := { dst := some 38, op := Op.load 25 (Operand.tmp 8), type := 25, pos := "memory.go:28", after := #[], guard := none }) (by rfl) (fun K hK => ?_) (AllReadyH.nil)
          go_simp
          skip
          go_wp2_with fail
          refine hK.out _ _ trivial (fun hHeld => ?_)
          clear hK K
          (try simp only [Act.put, List.setIfInBounds_toArray, List.set_cons_zero, List.set_cons_succ])
          refine wpAnyH_ready (rs := [3]) (by kernel_rfl) (by simp) ?_
          refine AllReadyH.cons (o := { dst := some 39, op := Op.call { callee := Callee.value (Operand.func 30), args := #[Operand.tmp 38], argTypes := #[25] }, type := 100, pos := "memory.go:28", after := #[{ on := 2, ground := Ground.data }], guard := none }) (by rfl) (fun K hK => ?_) (AllReadyH.nil)
          go_simp
          (go_at_call 30; refine (hist_new2 x _).mono ?_; rintro e w7 ⟨gh, ch, rfl, hch, hgh, hgh2, hrh, hb7'⟩; (try simp at hgh); have hb7 : Below wr.heap.size wr w7 := ((Below.drew (Below.alloc (Below.refl wr.heap.size wr) (Nat.le_refl _) _)).trans (hb7'.mono (by first | omega | (simp; done) | (simp; omega)))); have hs7 := hb7.size; have Hrh := hide hrh; clear hrh; obtain ⟨hcc7, hff7⟩ := bcell hb7; clear hb7'; have hz70 : w1.heap.size < w7.heap.size := (by omega); have hz71 : wr.heap.size < w7.heap.size := (by omega))
          go_wp2_with fail
          refine hK.out _ _ trivial (fun hHeld => ?_)
          clear hK K
          (try simp only [Act.put, List.setIfInBounds_toArray, List.set_cons_zero, List.set_cons_succ])
          refine wpAnyH_ready (rs := [4]) (by kernel_rfl) (by simp) ?_
          refine AllReadyH.cons (o := { dst := some 40, op := Op.buildSlice 31 1 #[(0, Operand.tmp 39)], type := 31, pos := "memory.go:28", after := #[{ on := 3, ground := Ground.data }], guard := none }) (by rfl) (fun K hK => ?_) (AllReadyH.nil)
          go_simp
          skip
          go_wp2_with fail
          refine hK.out _ _ trivial (fun hHeld => ?_)
          clear hK K
          (try simp only [Act.put, List.setIfInBounds_toArray, List.set_cons_zero, List.set_cons_succ])
          refine wpAnyH_ready (rs := [5]) (by kernel_rfl) (by simp) ?_
          refine AllReadyH.cons (o := { dst := some 41, op := Op.call { callee := Callee.builtin Builtin.append, args := #[Operand.tmp 37, Operand.tmp 40], argTypes := #[31, 31] }, type := 31, pos := "memory.go:28", after := #[{ on := 1, ground := Ground.data }, { on := 4, ground := Ground.data }, { on := 3, ground := Ground.chain }], guard := none }) (by rfl) (fun K hK => ?_) (AllReadyH.nil)
          refine wp_append_own (.tmp 37) (.tmp 40) 31 rfl (w1.heap.size + 1) 100 i0 _ 1 24 Tryz.underlying31 hi.out iz0.out iz1.out iz2.out rfl (by decide) (.slice Av k capv) k (hs.map histv) (by simp [Act.eval, Act.put]) (own_below Hown.out (ab0)) ⟨w7.heap.size, 0, none⟩ 1 [histv ⟨some ⟨gh, 0, none⟩, ch, [msg0 x]⟩] (by simp [Act.eval, Act.put]) rfl ?_ (by intro u hu; rw [List.mem_singleton.1 hu]; rfl) (by unfold maxLen; omega) (by omega) (by first | omega | (simp; done) | (simp; omega)) (w1.heap.size + 1) wr (ab0) (Nat.le_refl _) ?_; (focus (intro j u hu; refine alloc_cell _ _ _ (by first | omega | (simp; done) | (simp; omega)) ?_; simpa [histv] using hu)); intro v9 w9 how9 hb9 hz9 hst9; obtain ⟨g9, c9, rfl, hc9, hg9, -⟩ := own_some how9.out (by omega); (try simp at hz9); have d09 := (hb9.cell (p := ⟨w1.heap.size, 0, none⟩) (Nat.lt_succ_self _)).trans d0; have dz9 : ∀ o, w9.frozen? ⟨w1.heap.size, o, none⟩ = false := (fun o => (hb9.frozen (p := ⟨w1.heap.size, o, none⟩) (Nat.lt_succ_self _)).trans (dz o))
          (try go_simp)
          skip
          go_wp2_with fail
          refine hK.out _ _ trivial (fun hHeld => ?_)
          clear hK K
          (try simp only [Act.put, List.setIfInBounds_toArray, List.set_cons_zero, List.set_cons_succ])
          refine wpAnyH_take (i := 6) (v := ?_) (oi := { dst := some 42, op := Op.fieldAddr 34 (Operand.tmp 6) 0, type := 0, pos := "memory.go:28", after := #[{ on := 0, ground := Ground.phase }, { on := 1, ground := Ground.phase }, { on := 2, ground := Ground.phase }, { on := 3, ground := Ground.phase }, { on := 4, ground := Ground.phase }, { on := 5, ground := Ground.phase }], guard := none }) (by rfl) (by kernel_rfl) (by kernel_rfl) (by kernel_rfl) (fun _ _ _ h => h) (Or.inl ⟨by rfl, ?_⟩) (by assumption) ?_; rotate_left; focus (intro wTk hSw; (try dsimp only at hSw); go_simp; (try with_reducible rfl); done)
          (try simp only [Act.put, List.setIfInBounds_toArray, List.set_cons_zero, List.set_cons_succ])
          refine wpAnyH_ready (rs := [7]) (by kernel_rfl) (by simp) ?_
          refine AllReadyH.cons (o := { dst := none, op := Op.store 31 (Operand.tmp 42) (Operand.tmp 41), type := 0, pos := "memory.go:28", after := #[{ on := 6, ground := Ground.data }, { on := 5, ground := Ground.data }, { on := 5, ground := Ground.chain }, { on := 0, ground := Ground.phase }, { on := 1, ground := Ground.phase }, { on := 2, ground := Ground.phase }, { on := 3, ground := Ground.phase }, { on := 4, ground := Ground.phase }, { on := 5, ground := Ground.phase }], guard := none }) (by rfl) (fun K hK => ?_) (AllReadyH.nil)
          go_simp
          skip
          go_wp2_with fail
          refine hK.out _ _ trivial (fun hHeld => ?_)
          clear hK K
          (try simp only [Act.put, List.setIfInBounds_toArray, List.set_cons_zero, List.set_cons_succ])
          refine wpAnyH_done (by kernel_rfl) ?_ _
        rotate_left 1
        focus
          go_simp
          skip
          go_wp2_with fail
          refine hK.out _ _ trivial (fun hHeld => ?_)
          clear hK K
          (try simp only [Act.put, List.setIfInBounds_toArray, List.set_cons_zero, List.set_cons_succ])
          refine wpAnyH_ready (rs := [1, 3]) (by kernel_rfl) (by simp) ?_
          focus
            refine AllReadyH.cons (o := { dst := some 37, op := Op.load 31 (Operand.tmp 36), type := 31, pos := "memory.go:28", after := #[{ on := 0, ground := Ground.data }], guard := none }) (by rfl) (fun K hK => ?_) (AllReadyH.cons (o := { dst := some 39, op := Op.call { callee := Callee.value (Operand.func 30), args := #[Operand.tmp 38], argTypes := #[25] }, type := 100, pos := "memory.go:28", after := #[{ on := 2, ground := Ground.data }], guard := none }) (by rfl) (fun K hK => ?_) (AllReadyH.nil))
            focus
              go_simp
              skip
              go_wp2_with fail
              refine hK.out _ _ trivial (fun hHeld => ?_)
              clear hK K
              (try simp only [Act.put, List.setIfInBounds_toArray, List.set_cons_zero, List.set_cons_succ])
              refine wpAnyH_ready (rs := [3]) (by kernel_rfl) (by simp) ?_
              refine AllReadyH.cons (o := { dst := some 39, op := Op.call { callee := Callee.value (Operand.func 30), args := #[Operand.tmp 38], argTypes := #[25] }, type := 100, pos := "memory.go:28", after := #[{ on := 2, ground := Ground.data }], guard := none }) (by rfl) (fun K hK => ?_) (AllReadyH.nil)
              go_simp
              (go_at_call 30; refine (hist_new2 x _).mono ?_; rintro e w7 ⟨gh, ch, rfl, hch, hgh, hgh2, hrh, hb7'⟩; (try simp at hgh); have hb7 : Below wr.heap.size wr w7 := ((Below.drew (Below.alloc (Below.refl wr.heap.size wr) (Nat.le_refl _) _)).trans (hb7'.mono (by first | omega | (simp; done) | (simp; omega)))); have hs7 := hb7.size; have Hrh := hide hrh; clear hrh; obtain ⟨hcc7, hff7⟩ := bcell hb7; clear hb7'; have hz70 : w1.heap.size < w7.heap.size := (by omega); have hz71 : wr.heap.size < w7.heap.size := (by omega))
              go_wp2_with fail
              refine hK.out _ _ trivial (fun hHeld => ?_)
              clear hK K
              (try simp only [Act.put, List.setIfInBounds_toArray, List.set_cons_zero, List.set_cons_succ])
              refine wpAnyH_ready (rs := [4]) (by kernel_rfl) (by simp) ?_
              refine AllReadyH.cons (o := { dst := some 40, op := Op.buildSlice 31 1 #[(0, Operand.tmp 39)], type := 31, pos := "memory.go:28", after := #[{ on := 3, ground := Ground.data }], guard := none }) (by rfl) (fun K hK => ?_) (AllReadyH.nil)
              go_simp
              skip
              go_wp2_with fail
              refine hK.out _ _ trivial (fun hHeld => ?_)
              clear hK K
              (try simp only [Act.put, List.setIfInBounds_toArray, List.set_cons_zero, List.set_cons_succ])
              refine wpAnyH_ready (rs := [5]) (by kernel_rfl) (by simp) ?_
              refine AllReadyH.cons (o := { dst := some 41, op := Op.call { callee := Callee.builtin Builtin.append, args := #[Operand.tmp 37, Operand.tmp 40], argTypes := #[31, 31] }, type := 31, pos := "memory.go:28", after := #[{ on := 1, ground := Ground.data }, { on := 4, ground := Ground.data }, { on := 3, ground := Ground.chain }], guard := none }) (by rfl) (fun K hK => ?_) (AllReadyH.nil)
              refine wp_append_own (.tmp 37) (.tmp 40) 31 rfl (w1.heap.size + 1) 100 i0 _ 1 24 Tryz.underlying31 hi.out iz0.out iz1.out iz2.out rfl (by decide) (.slice Av k capv) k (hs.map histv) (by simp [Act.eval, Act.put]) (own_below Hown.out (ab0)) ⟨w7.heap.size, 0, none⟩ 1 [histv ⟨some ⟨gh, 0, none⟩, ch, [msg0 x]⟩] (by simp [Act.eval, Act.put]) rfl ?_ (by intro u hu; rw [List.mem_singleton.1 hu]; rfl) (by unfold maxLen; omega) (by omega) (by first | omega | (simp; done) | (simp; omega)) (w1.heap.size + 1) wr (ab0) (Nat.le_refl _) ?_; (focus (intro j u hu; refine alloc_cell _ _ _ (by first | omega | (simp; done) | (simp; omega)) ?_; simpa [histv] using hu)); intro v9 w9 how9 hb9 hz9 hst9; obtain ⟨g9, c9, rfl, hc9, hg9, -⟩ := own_some how9.out (by omega); (try simp at hz9); have d09 := (hb9.cell (p := ⟨w1.heap.size, 0, none⟩) (Nat.lt_succ_self _)).trans d0; have dz9 : ∀ o, w9.frozen? ⟨w1.heap.size, o, none⟩ = false := (fun o => (hb9.frozen (p := ⟨w1.heap.size, o, none⟩) (Nat.lt_succ_self _)).trans (dz o))
              (try go_simp)
              skip
              go_wp2_with fail
              refine hK.out _ _ trivial (fun hHeld => ?_)
              clear hK K
              (try simp only [Act.put, List.setIfInBounds_toArray, List.set_cons_zero, List.set_cons_succ])
              refine wpAnyH_take (i := 6) (v := ?_) (oi := { dst := some 42, op := Op.fieldAddr 34 (Operand.tmp 6) 0, type := 0, pos := "memory.go:28", after := #[{ on := 0, ground := Ground.phase }, { on := 1, ground := Ground.phase }, { on := 2, ground := Ground.phase }, { on := 3, ground := Ground.phase }, { on := 4, ground := Ground.phase }, { on := 5, ground := Ground.phase }], guard := none }) (by rfl) (by kernel_rfl) (by kernel_rfl) (by kernel_rfl) (fun _ _ _ h => h) (Or.inl ⟨by rfl, ?_⟩) (by assumption) ?_; rotate_left; focus (intro wTk hSw; (try dsimp only at hSw); go_simp; (try with_reducible rfl); done)
              (try simp only [Act.put, List.setIfInBounds_toArray, List.set_cons_zero, List.set_cons_succ])
              refine wpAnyH_ready (rs := [7]) (by kernel_rfl) (by simp) ?_
              refine AllReadyH.cons (o := { dst := none, op := Op.store 31 (Operand.tmp 42) (Operand.tmp 41), type := 0, pos := "memory.go:28", after := #[{ on := 6, ground := Ground.data }, { on := 5, ground := Ground.data }, { on := 5, ground := Ground.chain }, { on := 0, ground := Ground.phase }, { on := 1, ground := Ground.phase }, { on := 2, ground := Ground.phase }, { on := 3, ground := Ground.phase }, { on := 4, ground := Ground.phase }, { on := 5, ground := Ground.phase }], guard := none }) (by rfl) (fun K hK => ?_) (AllReadyH.nil)
              go_simp
              skip
              go_wp2_with fail
              refine hK.out _ _ trivial (fun hHeld => ?_)
              clear hK K
              (try simp only [Act.put, List.setIfInBounds_toArray, List.set_cons_zero, List.set_cons_succ])
              refine wpAnyH_done (by kernel_rfl) ?_ _
            rotate_left 1
            focus
              go_simp
              (go_at_call 30; refine (hist_new2 x _).mono ?_; rintro e w7 ⟨gh, ch, rfl, hch, hgh, hgh2, hrh, hb7'⟩; (try simp at hgh); have hb7 : Below wr.heap.size wr w7 := ((Below.drew (Below.alloc (Below.refl wr.heap.size wr) (Nat.le_refl _) _)).trans (hb7'.mono (by first | omega | (simp; done) | (simp; omega)))); have hs7 := hb7.size; have Hrh := hide hrh; clear hrh; obtain ⟨hcc7, hff7⟩ := bcell hb7; clear hb7'; have hz70 : w1.heap.size < w7.heap.size := (by omega); have hz71 : wr.heap.size < w7.heap.size := (by omega))
              go_wp2_with fail
              refine hK.out _ _ trivial (fun hHeld => ?_)
              clear hK K
              (try simp only [Act.put, List.setIfInBounds_toArray, List.set_cons_zero, List.set_cons_succ])
              refine wpAnyH_ready (rs := [1, 4]) (by kernel_rfl) (by simp) ?_
              focus
                refine AllReadyH.cons (o := { dst := some 37, op := Op.load 31 (Operand.tmp 36), type := 31, pos := "memory.go:28", after := #[{ on := 0, ground := Ground.data }], guard := none }) (by rfl) (fun K hK => ?_) (AllReadyH.cons (o := { dst := some 40, op := Op.buildSlice 31 1 #[(0, Operand.tmp 39)], type := 31, pos := "memory.go:28", after := #[{ on := 3, ground := Ground.data }], guard := none }) (by rfl) (fun K hK => ?_) (AllReadyH.nil))
                focus
                  go_simp
                  skip
                  go_wp2_with fail
                  refine hK.out _ _ trivial (fun hHeld => ?_)
                  clear hK K
                  (try simp only [Act.put, List.setIfInBounds_toArray, List.set_cons_zero, List.set_cons_succ])
                  refine wpAnyH_ready (rs := [4]) (by kernel_rfl) (by simp) ?_
                  refine AllReadyH.cons (o := { dst := some 40, op := Op.buildSlice 31 1 #[(0, Operand.tmp 39)], type := 31, pos := "memory.go:28", after := #[{ on := 3, ground := Ground.data }], guard := none }) (by rfl) (fun K hK => ?_) (AllReadyH.nil)
                  go_simp
                  skip
                  go_wp2_with fail
                  refine hK.out _ _ trivial (fun hHeld => ?_)
                  clear hK K
                  (try simp only [Act.put, List.setIfInBounds_toArray, List.set_cons_zero, List.set_cons_succ])
                  refine wpAnyH_ready (rs := [5]) (by kernel_rfl) (by simp) ?_
                  refine AllReadyH.cons (o := { dst := some 41, op := Op.call { callee := Callee.builtin Builtin.append, args := #[Operand.tmp 37, Operand.tmp 40], argTypes := #[31, 31] }, type := 31, pos := "memory.go:28", after := #[{ on := 1, ground := Ground.data }, { on := 4, ground := Ground.data }, { on := 3, ground := Ground.chain }], guard := none }) (by rfl) (fun K hK => ?_) (AllReadyH.nil)
                  refine wp_append_own (.tmp 37) (.tmp 40) 31 rfl (w1.heap.size + 1) 100 i0 _ 1 24 Tryz.underlying31 hi.out iz0.out iz1.out iz2.out rfl (by decide) (.slice Av k capv) k (hs.map histv) (by simp [Act.eval, Act.put]) (own_below Hown.out (ab0)) ⟨w7.heap.size, 0, none⟩ 1 [histv ⟨some ⟨gh, 0, none⟩, ch, [msg0 x]⟩] (by simp [Act.eval, Act.put]) rfl ?_ (by intro u hu; rw [List.mem_singleton.1 hu]; rfl) (by unfold maxLen; omega) (by omega) (by first | omega | (simp; done) | (simp; omega)) (w1.heap.size + 1) wr (ab0) (Nat.le_refl _) ?_; (focus (intro j u hu; refine alloc_cell _ _ _ (by first | omega | (simp; done) | (simp; omega)) ?_; simpa [histv] using hu)); intro v9 w9 how9 hb9 hz9 hst9; obtain ⟨g9, c9, rfl, hc9, hg9, -⟩ := own_some how9.out (by omega); (try simp at hz9); have d09 := (hb9.cell (p := ⟨w1.heap.size, 0, none⟩) (Nat.lt_succ_self _)).trans d0; have dz9 : ∀ o, w9.frozen? ⟨w1.heap.size, o, none⟩ = false := (fun o => (hb9.frozen (p := ⟨w1.heap.size, o, none⟩) (Nat.lt_succ_self _)).trans (dz o))
                  (try go_simp)
                  skip
                  go_wp2_with fail
                  refine hK.out _ _ trivial (fun hHeld => ?_)
                  clear hK K
                  (try simp only [Act.put, List.setIfInBounds_toArray, List.set_cons_zero, List.set_cons_succ])
                  refine wpAnyH_take (i := 6) (v := ?_) (oi := { dst := some 42, op := Op.fieldAddr 34 (Operand.tmp 6) 0, type := 0, pos := "memory.go:28", after := #[{ on := 0, ground := Ground.phase }, { on := 1, ground := Ground.phase }, { on := 2, ground := Ground.phase }, { on := 3, ground := Ground.phase }, { on := 4, ground := Ground.phase }, { on := 5, ground := Ground.phase }], guard := none }) (by rfl) (by kernel_rfl) (by kernel_rfl) (by kernel_rfl) (fun _ _ _ h => h) (Or.inl ⟨by rfl, ?_⟩) (by assumption) ?_; rotate_left; focus (intro wTk hSw; (try dsimp only at hSw); go_simp; (try with_reducible rfl); done)
                  (try simp only [Act.put, List.setIfInBounds_toArray, List.set_cons_zero, List.set_cons_succ])
                  refine wpAnyH_ready (rs := [7]) (by kernel_rfl) (by simp) ?_
                  refine AllReadyH.cons (o := { dst := none, op := Op.store 31 (Operand.tmp 42) (Operand.tmp 41), type := 0, pos := "memory.go:28", after := #[{ on := 6, ground := Ground.data }, { on := 5, ground := Ground.data }, { on := 5, ground := Ground.chain }, { on := 0, ground := Ground.phase }, { on := 1, ground := Ground.phase }, { on := 2, ground := Ground.phase }, { on := 3, ground := Ground.phase }, { on := 4, ground := Ground.phase }, { on := 5, ground := Ground.phase }], guard := none }) (by rfl) (fun K hK => ?_) (AllReadyH.nil)
                  go_simp
                  skip
                  go_wp2_with fail
                  refine hK.out _ _ trivial (fun hHeld => ?_)
                  clear hK K
                  (try simp only [Act.put, List.setIfInBounds_toArray, List.set_cons_zero, List.set_cons_succ])
                  refine wpAnyH_done (by kernel_rfl) ?_ _
                rotate_left 1
                focus
                  go_simp
                  skip
                  go_wp2_with fail
                  refine hK.out _ _ trivial (fun hHeld => ?_)
                  clear hK K
                  (try simp only [Act.put, List.setIfInBounds_toArray, List.set_cons_zero, List.set_cons_succ])
                  refine wpAnyH_ready (rs := [1]) (by kernel_rfl) (by simp) ?_
                  refine AllReadyH.cons (o := { dst := some 37, op := Op.load 31 (Operand.tmp 36), type := 31, pos := "memory.go:28", after := #[{ on := 0, ground := Ground.data }], guard := none }) (by rfl) (fun K hK => ?_) (AllReadyH.nil)
                  go_simp
                  skip
                  go_wp2_with fail
                  refine hK.out _ _ trivial (fun hHeld => ?_)
                  clear hK K
                  (try simp only [Act.put, List.setIfInBounds_toArray, List.set_cons_zero, List.set_cons_succ])
                  refine wpAnyH_ready (rs := [5]) (by kernel_rfl) (by simp) ?_
                  refine AllReadyH.cons (o := { dst := some 41, op := Op.call { callee := Callee.builtin Builtin.append, args := #[Operand.tmp 37, Operand.tmp 40], argTypes := #[31, 31] }, type := 31, pos := "memory.go:28", after := #[{ on := 1, ground := Ground.data }, { on := 4, ground := Ground.data }, { on := 3, ground := Ground.chain }], guard := none }) (by rfl) (fun K hK => ?_) (AllReadyH.nil)
                  refine wp_append_own (.tmp 37) (.tmp 40) 31 rfl (w1.heap.size + 1) 100 i0 _ 1 24 Tryz.underlying31 hi.out iz0.out iz1.out iz2.out rfl (by decide) (.slice Av k capv) k (hs.map histv) (by simp [Act.eval, Act.put]) (own_below Hown.out (ab0)) ⟨w7.heap.size, 0, none⟩ 1 [histv ⟨some ⟨gh, 0, none⟩, ch, [msg0 x]⟩] (by simp [Act.eval, Act.put]) rfl ?_ (by intro u hu; rw [List.mem_singleton.1 hu]; rfl) (by unfold maxLen; omega) (by omega) (by first | omega | (simp; done) | (simp; omega)) (w1.heap.size + 1) wr (ab0) (Nat.le_refl _) ?_; (focus (intro j u hu; refine alloc_cell _ _ _ (by first | omega | (simp; done) | (simp; omega)) ?_; simpa [histv] using hu)); intro v9 w9 how9 hb9 hz9 hst9; obtain ⟨g9, c9, rfl, hc9, hg9, -⟩ := own_some how9.out (by omega); (try simp at hz9); have d09 := (hb9.cell (p := ⟨w1.heap.size, 0, none⟩) (Nat.lt_succ_self _)).trans d0; have dz9 : ∀ o, w9.frozen? ⟨w1.heap.size, o, none⟩ = false := (fun o => (hb9.frozen (p := ⟨w1.heap.size, o, none⟩) (Nat.lt_succ_self _)).trans (dz o))
                  (try go_simp)
                  skip
                  go_wp2_with fail
                  refine hK.out _ _ trivial (fun hHeld => ?_)
                  clear hK K
                  (try simp only [Act.put, List.setIfInBounds_toArray, List.set_cons_zero, List.set_cons_succ])
                  refine wpAnyH_take (i := 6) (v := ?_) (oi := { dst := some 42, op := Op.fieldAddr 34 (Operand.tmp 6) 0, type := 0, pos := "memory.go:28", after := #[{ on := 0, ground := Ground.phase }, { on := 1, ground := Ground.phase }, { on := 2, ground := Ground.phase }, { on := 3, ground := Ground.phase }, { on := 4, ground := Ground.phase }, { on := 5, ground := Ground.phase }], guard := none }) (by rfl) (by kernel_rfl) (by kernel_rfl) (by kernel_rfl) (fun _ _ _ h => h) (Or.inl ⟨by rfl, ?_⟩) (by assumption) ?_; rotate_left; focus (intro wTk hSw; (try dsimp only at hSw); go_simp; (try with_reducible rfl); done)
                  (try simp only [Act.put, List.setIfInBounds_toArray, List.set_cons_zero, List.set_cons_succ])
                  refine wpAnyH_ready (rs := [7]) (by kernel_rfl) (by simp) ?_
                  refine AllReadyH.cons (o := { dst := none, op := Op.store 31 (Operand.tmp 42) (Operand.tmp 41), type := 0, pos := "memory.go:28", after := #[{ on := 6, ground := Ground.data }, { on := 5, ground := Ground.data }, { on := 5, ground := Ground.chain }, { on := 0, ground := Ground.phase }, { on := 1, ground := Ground.phase }, { on := 2, ground := Ground.phase }, { on := 3, ground := Ground.phase }, { on := 4, ground := Ground.phase }, { on := 5, ground := Ground.phase }], guard := none }) (by rfl) (fun K hK => ?_) (AllReadyH.nil)
                  go_simp
                  skip
                  go_wp2_with fail
                  refine hK.out _ _ trivial (fun hHeld => ?_)
                  clear hK K
                  (try simp only [Act.put, List.setIfInBounds_toArray, List.set_cons_zero, List.set_cons_succ])
                  refine wpAnyH_done (by kernel_rfl) ?_ _
                rotate_left 1
            rotate_left 2
        rotate_left 3
      all_goals go_wp2_with fail
      all_goals have hBx : Below w1.heap.size w1 w9 := hB.trans (hb9.mono (by omega))
      all_goals have hX9 : BoxC w1.heap.size [.slice Av k capv, .slice (some ⟨w.heap.size + 1, 0, none⟩) th th] w9 := ⟨fun j u hu => (hb9.cell (p := ⟨w1.heap.size, j, none⟩) (Nat.lt_succ_self _)).trans (HX'.out.1 j u hu), fun o => dz9 o, by omega⟩
      all_goals have hn9 : HNew (w1.heap.size + 1) (.slice Av k capv) (w7.alloc (.cells #[.slice (some ⟨gh, 0, none⟩) 1 ch] 100)) x ⟨some ⟨gh, 0, none⟩, ch, [msg0 x]⟩ := ⟨gh, ch, rfl, hch, by omega, by simp; omega, own_ne Hown.out (.inr (by omega)), (Hrh.out.below (Below.alloc (Below.refl _ _) (Nat.le_refl _) _)).more (by simp)⟩
      all_goals have hrow9 : HRow (w1.heap.size + 1) (.slice (some ⟨g9, 0, none⟩) (k + 1) c9) (w9.setCell ⟨w1.heap.size, 0, none⟩ (.slice (some ⟨g9, 0, none⟩) (k + 1) c9)) (ws.take k ++ [x]) (hs ++ [⟨some ⟨gh, 0, none⟩, ch, [msg0 x]⟩]) := HRow.snoc (HRow.map hH.out (fun _ _ hh => HNew.set (HNew.app (HNew.below (HNew.below hh hb7) (Below.alloc (Below.refl _ _) (Nat.le_refl _) _)) (by first | omega | (simp; done) | (simp; omega)) hst9.out) (Nat.lt_succ_self _) _)) (HNew.set (HNew.app hn9 (by first | omega | (simp; done) | (simp; omega)) hst9.out) (Nat.lt_succ_self _) _)
      all_goals have htk : ws.take (k + 1) = ws.take k ++ [x] := by rw [List.take_add_one, Hx.out]; rfl
      all_goals refine ⟨⟨k + 1, hs ++ [⟨some ⟨gh, 0, none⟩, ch, [msg0 x]⟩], (.slice (some ⟨g9, 0, none⟩) (k + 1) c9), by go_num, by omega, by simp [hlk], BoxC.store hX9 (o := 0) (by simp) _, ?_, hide (by rw [htk]; exact hrow9), hBx.setCell (p := ⟨w1.heap.size, 0, none⟩) (Nat.le_refl _) _, by simp; omega⟩, by simp [intOf]; omega⟩
      all_goals rw [List.map_append]
      all_goals exact ownsRow_setCell_below how9.out (a := ⟨w1.heap.size, 0, none⟩) (Nat.lt_succ_self _) _
    · obtain rfl : k = n := by omega
      have d0 := hX.at (j := 0) rfl
      have d1 := hX.at (j := 1) rfl
      have r0r := (hB.cell (p := ⟨w.heap.size, 0, none⟩) (by show w.heap.size < w1.heap.size; omega)).trans r0
      have r1r := (hB.cell (p := ⟨w.heap.size, 1, none⟩) (by show w.heap.size < w1.heap.size; omega)).trans r1
      have f0r : ∀ o, wr.frozen? ⟨w.heap.size, o, none⟩ = false := fun o => (hB.frozen (p := ⟨w.heap.size, o, none⟩) (by show w.heap.size < w1.heap.size; omega)).trans (f0 o)
      have Hown := hide hown
      clear hown hX hX2 f0 r0 r1
      go_wp2_with fail
      have hwk : ws.take k = ws := List.take_of_length_le (by rw [Hw.out]; exact Nat.le_refl _)
      have hH' := hH.out
      rw [hwk] at hH'
      have hrow := HRow.map hH' (fun _ _ hh => HNew.set (o := 1) (HNew.set (o := 0) hh (show w.heap.size < w1.heap.size + 1 by omega) (.slice Av k capv)) (show w.heap.size < w1.heap.size + 1 by omega) (.slice (some ⟨w.heap.size + 1, 0, none⟩) th th))
      obtain ⟨c2, a2, rr⟩ := own_cap' Hown.out
      have offA := own_off Hown.out (C := w.heap.size) (by omega)
      have hvv : Rd w1 w1.heap.size 1 (some ⟨w.heap.size + 1, 0, none⟩) th (List.replicate th (.map none)) := by
        have h := Hrv.out
        rw [show (Value.agg #[Value.map none]).cells = #[Value.map none] from rfl, toList_madeCells_one] at h
        exact h
      have rz : Rd ((wr.setCell ⟨w.heap.size, 0, none⟩ (.slice Av k capv)).setCell ⟨w.heap.size, 1, none⟩ (.slice (some ⟨w.heap.size + 1, 0, none⟩) th th)) ((wr.setCell ⟨w.heap.size, 0, none⟩ (.slice Av k capv)).setCell ⟨w.heap.size, 1, none⟩ (.slice (some ⟨w.heap.size + 1, 0, none⟩) th th)).heap.size 1 Av k (hs.map histv) := Rd.more (Rd.set_off (Rd.set_off rr offA _) offA _) (by simp)
      have vz : Rd ((wr.setCell ⟨w.heap.size, 0, none⟩ (.slice Av k capv)).setCell ⟨w.heap.size, 1, none⟩ (.slice (some ⟨w.heap.size + 1, 0, none⟩) th th)) ((wr.setCell ⟨w.heap.size, 0, none⟩ (.slice Av k capv)).setCell ⟨w.heap.size, 1, none⟩ (.slice (some ⟨w.heap.size + 1, 0, none⟩) th th)).heap.size 1 (some ⟨w.heap.size + 1, 0, none⟩) th (List.replicate th (.map none)) := Rd.more (Rd.set_off (Rd.set_off (hvv.below hB) (OffC.at (by omega)) _) (OffC.at (by omega)) _) (by simp; omega)
      have HM := hide (mem_made hrow hlk c2 a2 rz vz)
      have hms := made_msgs hrow
      have hO : Hid (∀ C, C < w.heap.size → MemV.off C ⟨Av, capv, hs, some ⟨w.heap.size + 1, 0, none⟩, th, List.replicate th ⟨none, fun _ => 0⟩⟩) := hide (fun C hC => mem_made_off hrow hlk (own_off Hown.out (C := C) (by omega)) (by omega) (by omega))
      have HBz : Hid (Below w.heap.size w ((wr.setCell ⟨w.heap.size, 0, none⟩ (.slice Av k capv)).setCell ⟨w.heap.size, 1, none⟩ (.slice (some ⟨w.heap.size + 1, 0, none⟩) th th))) := hide (Below.setCell (Below.setCell hBr (Nat.le_refl _) _) (Nat.le_refl _) _)
      clear hrow rz vz rr hvv
      refine bodyPost_ret (v := .tuple #[.agg #[.slice Av k capv, .slice (some ⟨w.heap.size + 1, 0, none⟩) th th], .int .i64 0]) (by simp [results, Tryz.results20, go_sem]; (try go_simp)) rfl ⟨⟨Av, capv, hs, some ⟨w.heap.size + 1, 0, none⟩, th, List.replicate th ⟨none, fun _ => 0⟩⟩, (by simp only [hlk, List.length_replicate]), hms, rfl, ?_, hO.out, ?_⟩
      · with_reducible exact HM.out
      · with_reducible exact HBz.out
end Go.Proofs.YtfdndkgjmmeafaaGreatDoor

namespace Go.Proofs.YtfdndkgjmmeafaaGreatDoor
set_option linter.unusedSimpArgs false
set_option linter.unusedVariables false
open Go.RowKit
def setCells (w : World) (b o : Nat) : List Value → World
  | [] => w
  | v :: vs => setCells (w.setCell ⟨b, o, none⟩ v) b (o + 1) vs
def setRange {α : Type} (xs : List α) (i : Nat) : List α → List α
  | [] => xs
  | v :: vs => setRange (xs.set i v) (i + 1) vs
theorem Rd.setCells {B size n b off : Nat} : ∀ (vs : List Value) {w : World} {xs : List Value} {i : Nat}, Rd w B size (some ⟨b, off, none⟩) n xs → i + vs.length ≤ xs.length → Rd (setCells w b (off + i) vs) B size (some ⟨b, off, none⟩) n (setRange xs i vs)
  | [], w, xs, i, h, _ => h
  | v :: vs, w, xs, i, h, hl => by
    rw [List.length_cons] at hl
    exact Rd.setCells vs (i := i + 1) (Rd.setAt h (i := i) (by omega) v) (by rw [List.length_set]; omega)
theorem setRange_eq {α : Type} : ∀ (vs xs : List α) (i : Nat), i + vs.length ≤ xs.length → setRange xs i vs = xs.take i ++ vs ++ xs.drop (i + vs.length)
  | [], xs, i, _ => by simp [setRange]
  | v :: vs, xs, i, h => by
    rw [List.length_cons] at h
    rw [setRange, setRange_eq vs _ _ (by rw [List.length_set]; omega), List.length_cons]
    have h1 : (xs.set i v).take (i + 1) = xs.take i ++ [v] := by
      rw [List.take_add_one, List.take_set_of_le (Nat.le_refl _), List.getElem?_set_self (by omega)]
      rfl
    have h2 : (xs.set i v).drop (i + 1 + vs.length) = xs.drop (i + (vs.length + 1)) := by
      rw [List.drop_set_of_lt (by omega), show i + 1 + vs.length = i + (vs.length + 1) by omega]
    rw [h1, h2]
    simp
theorem flatMap_put {α β : Type} {s : Nat} {g : α → List β} (hg : ∀ a, (g a).length = s) (l : List α) (j : Nat) (a' : α) (hj : j < l.length) : setRange (l.flatMap g) (j * s) (g a') = (l.set j a').flatMap g := by
  have hlen : ∀ l : List α, (l.flatMap g).length = l.length * s := by
    intro l
    induction l with
    | nil => simp
    | cons a l ih => rw [List.flatMap_cons, List.length_append, ih, hg, List.length_cons, Nat.succ_mul]; omega
  have h1 : (j + 1) * s ≤ l.length * s := Nat.mul_le_mul_right _ hj
  rw [Nat.succ_mul] at h1
  rw [setRange_eq _ _ _ (by rw [hg, hlen]; exact h1), hg, List.set_eq_take_append_cons_drop, if_pos hj]
  rw [List.flatMap_append, List.flatMap_cons]
  have e1 : (l.flatMap g).take (j * s) = (l.take j).flatMap g := by
    conv => lhs; rw [← List.take_append_drop j l, List.flatMap_append]
    rw [List.take_append_of_le_length (by rw [hlen, List.length_take, Nat.min_eq_left (by omega)]; exact Nat.le_refl _), List.take_of_length_le (by rw [hlen, List.length_take, Nat.min_eq_left (by omega)]; exact Nat.le_refl _)]
  have e2 : (l.flatMap g).drop (j * s + s) = (l.drop (j + 1)).flatMap g := by
    conv => lhs; rw [← List.take_append_drop (j + 1) l, List.flatMap_append]
    have hx : ((l.take (j + 1)).flatMap g).length = j * s + s := by rw [hlen, List.length_take, Nat.min_eq_left (by omega), Nat.succ_mul]
    rw [← hx, List.drop_left]
  rw [e1, e2, List.append_assoc]
end Go.Proofs.YtfdndkgjmmeafaaGreatDoor

