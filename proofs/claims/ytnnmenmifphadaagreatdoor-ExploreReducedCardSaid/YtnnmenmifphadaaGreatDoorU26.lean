/- Package memory: New. -/
import Derived.Test.YtnnmenmifphadaaGreatDoorU25
set_option linter.unusedSimpArgs false
set_option linter.unusedVariables false
set_option maxRecDepth 100000
set_option maxHeartbeats 40000000
namespace Go.Proofs.YtnnmenmifphadaaGreatDoor
open Go.RowKit Go.Maps
theorem info_hist2 : (Tryz.prog.info? 115).map (fun i => (i.zero, i.size, i.bytes)) = some (some (.agg #[.slice none 0 0]), 1, 24) := by kernel_rfl
theorem w3c_len' (x : W3) : (w3c x).length = 3 := rfl
theorem HRow.at {base : Nat} {v : Value} {w : World} {xs : List W3} {hs : List HistV} (h : HRow base v w xs hs) {y : HistV} (hy : y ∈ hs) : ∃ x, HNew base v w x y := by
 obtain ⟨j, hj, e⟩ := List.mem_iff_getElem.1 hy
 have h2 : hs[j]? = some y := by rw [List.getElem?_eq_getElem hj, e]
 have h3 : xs[j]? = some (xs[j]'(by rw [← h.1]; exact hj)) := List.getElem?_eq_getElem _
 exact ⟨_, h.2 j _ y h3 h2⟩
theorem mem_made {W : World} {Av : Option Addr} {capv V th n base : Nat} {v : Value} {ws : List W3} {hs : List HistV} (hrow : HRow base v W ws hs) (hl : hs.length = n) (h1 : n ≤ capv) (h2 : Av = none → n = 0) (h3 : Rd W W.heap.size 1 Av n (hs.map histv)) (h4 : Rd W W.heap.size 1 (some ⟨V, 0, none⟩) th (List.replicate th (.map none))) : MemV.R W ⟨Av, capv, hs, some ⟨V, 0, none⟩, th, List.replicate th ⟨none, fun _ => 0⟩⟩ := by
 subst hl
 refine ⟨⟨h1, h2, h3, fun y hy => ?_⟩, ?_, (fun e => by cases e), ?_, fun y hy => ?_⟩
 ·obtain ⟨x, hx⟩ := hrow.at hy
  exact hx.R _
 ·show (List.replicate th _).length ≤ th
  rw [List.length_replicate]; exact Nat.le_refl _
 ·show Rd W W.heap.size 1 (some ⟨V, 0, none⟩) (List.replicate th (⟨none, fun _ => 0⟩ : VwV)).length ((List.replicate th (⟨none, fun _ => 0⟩ : VwV)).map vwv)
  rw [List.length_replicate, List.map_replicate]; exact h4
 ·rw [List.eq_of_mem_replicate hy]
  exact VwV.R.nil _ _
theorem made_msgs {W : World} {base : Nat} {v : Value} {ws : List W3} {hs : List HistV} (hrow : HRow base v W ws hs) : hs.map HistV.l = ws.map (fun x => [msg0 x]) := by
 apply List.ext_getElem?
 intro j
 rw [List.getElem?_map, List.getElem?_map]
 by_cases hj : j < ws.length
 ·have h3 : ws[j]? = some ws[j] := List.getElem?_eq_getElem hj
  have h4 : hs[j]? = some (hs[j]'(by rw [hrow.1]; exact hj)) := List.getElem?_eq_getElem _
  rw [h3, h4]
  simp only [Option.map_some]
  rw [(hrow.2 j _ _ h3 h4).l]
 ·rw [List.getElem?_eq_none (l := hs) (by rw [hrow.1]; omega), List.getElem?_eq_none (l := ws) oM]
  rfl
theorem mem_made_off {W : World} {Av : Option Addr} {capv V th n base C : Nat} {v : Value} {ws : List W3} {hs : List HistV} (hrow : HRow base v W ws hs) (hl : hs.length = n) (h1 : OffC C n Av) (hV : V ≠ C) (hC : C < base) : MemV.off C ⟨Av, capv, hs, some ⟨V, 0, none⟩, th, List.replicate th ⟨none, fun _ => 0⟩⟩ := by
 subst hl
 refine ⟨h1, OffC.at hV, fun y hy => ?_⟩
 obtain ⟨x, hx⟩ := hrow.at hy
 exact hx.off hC
theorem mem_new (th n : Nat) (A : Option Addr) (cap : Nat) (ws : List W3) (w : World) (hw : ws.length = n) (hr : Rd w w.heap.size 3 A n (ws.flatMap w3c)) (ht1 : 1 ≤ th) (ht2 : th ≤ 8) (hn1 : 1 ≤ n) (hn2 : n ≤ 4096) :
  Calls Tryz.prog 52 #[.int .i64 th, .slice A n cap] w fun e w' => ∃ M : MemV, e = .returned (.tuple #[(.agg #[.slice (M).pA (M).hs.length (M).pc, .slice (M).vA (M).vs.length (M).vc]), .int .i64 0]) ∧ M.hs.map HistV.l = ws.map (fun x => [msg0 x]) ∧ M.vs = List.replicate th ⟨none, fun _ => 0⟩ ∧ M.R w' ∧ (∀ C, C < w.heap.size → M.off C) ∧ Below w.heap.size w w' := by
 obtain ⟨i0, hi0, jz0, jz1, jz2⟩ := info_parts info_hist2
 have hi := hide hi0
 have iz0 := hide jz0
 have iz1 := hide jz1
 have iz2 := hide jz2
 obtain ⟨i1, hi1, kz0, kz1, kz2⟩ := info_parts info_view
 have hi' := hide hi1
 have iy0 := hide kz0
 have iy1 := hide kz1
 have iy2 := hide kz2
 clear hi0 jz0 jz1 jz2 hi1 kz0 kz1 kz2
 have g1 : ¬ ((th : Int) < 1) := by omega
 have g2 : ¬ ((th : Int) > 8) := by omega
 have g2' : ¬ ((8 : Int) < th) := by omega
 have g3 : ¬ ((n : Int) = 0) := by omega
 have g4 : ¬ ((n : Int) > 4096) := by omega
 have g4' : ¬ ((4096 : Int) < n) := by omega
 obtain ⟨b, off, eA, hbw, hcw⟩ := hr.2 oM
 subst eA
 have Hcw := hide hcw
 have Hw := hide hw
 clear hr hw hcw
 go_enter Tryz.func52, Tryz.ntmps52
 go_wp2_with (first
  | (at_make; refine wpList_make_full _ rfl _ _ 27 rfl w.heap.size 121 i1 _ 1 Tryz.underlying27 hi'.out iy0.out iy1.out _ _ _ _ th rfl rfl rfl rfl (by rw [iy2.out]; omega) (by unfold maxLen; omega) (by first | omega | (simp; done) | (simp; omega)) ?_; intro w1 hown1 hgr1; have hb1 : Below w.heap.size w w1 := Below.grown (w := w.alloc (.cells #[.slice none 0 0, .slice none 0 0] 29)) ab0 hgr1 (by first | omega | (simp; done) | (simp; omega)) (fun k hk => by cases hk); have hs1 := hgr1.size; (try simp at hs1); obtain ⟨hlv, hfv⟩ := own_cells (by simpa using hown1); obtain ⟨-, -, hrv⟩ := own_cap' hown1; (try simp at hrv); have Hrv := hide hrv; clear hrv hown1; have r0 : w1.cell? ⟨w.heap.size, 0, none⟩ = some (.slice none 0 0) := (by refine (World.cell?_of_block (hgr1.block w.heap.size sM sM)).trans ?_; go_simp); have r1 : w1.cell? ⟨w.heap.size, 1, none⟩ = some (.slice none 0 0) := (by refine (World.cell?_of_block (hgr1.block w.heap.size sM sM)).trans ?_; go_simp); have f0 : ∀ o, w1.frozen? ⟨w.heap.size, o, none⟩ = false := (by intro o; refine (World.frozen?_of_block (hgr1.block w.heap.size sM sM)).trans ?_; go_simp); clear hgr1 hlv hfv))
 obtain ⟨w2, hw2⟩ : ∃ W : World, W = w1.alloc (.cells #[.slice none 0 0, .slice (some ⟨w.heap.size + 1, 0, none⟩) th th] 29) := ⟨_, rfl⟩
 have hX2 : BoxC w1.heap.size [.slice none 0 0, .slice (some ⟨w.heap.size + 1, 0, none⟩) th th] w2 := by rw [hw2]; exact BoxC.made _ _ _
 have hB12 : Below w1.heap.size w1 w2 := by rw [hw2]; exact ab0
 have hB02 : Below w.heap.size w w2 := hb1.trans (hB12.mono oM)
 have hs12 : w1.heap.size + 1 ≤ w2.heap.size := by rw [hw2]; simp
 rw [← hw2]
 clear hw2
 go_loopw [32] (fun i wr => ∃ (k : Nat) (hs : List HistV) (v : Value), i = .int .i64 k ∧ k ≤ n ∧ hs.length = k ∧ BoxC w1.heap.size [v, .slice (some ⟨w.heap.size + 1, 0, none⟩) th th] wr ∧ wr.ownsRow (w1.heap.size + 1) 115 1 v k (hs.map histv) ∧ Hid (HRow (w1.heap.size + 1) v wr (ws.take k) hs) ∧ Below w1.heap.size w1 wr ∧ w1.heap.size + 1 ≤ wr.heap.size) (fun i _ => n - (intOf i).toNat)
 case atStart => exact ⟨0, [], .slice none 0 0, rfl, by omega, rfl, hX2, World.ownsRow_nil _ _ _ _, hide ⟨rfl, fun j x h hx _ => by simp at hx⟩, hB12, hs12⟩
 case round =>
  obtain ⟨k, hs, v, rfl, hk, hlk, hX, hown, hH, hB, hsr⟩ := hrel
  obtain ⟨Av, capv, rfl, hcpv, hblv⟩ := own_slice hown
  have hBr : Below w.heap.size w wr := hb1.trans (hB.mono oM)
  by_cases hlt : (k : Int) < n
  ·obtain ⟨x, hx⟩ : ∃ x, ws[k]? = some x := ⟨_, List.getElem?_eq_getElem (by rw [Hw.out]; omega)⟩
   have hcell : ∀ j u, (w3c x)[j]? = some u → wr.cell? ⟨b, off + (k * 3 + j), none⟩ = some u := by
    intro j u hu
    have hj : j < 3 := by have := (List.getElem?_eq_some_iff.1 hu).1; exact this
    rw [hBr.cell (p := ⟨b, off + (k * 3 + j), none⟩) hbw]
    exact Hcw.out _ _ (by rw [told_at w3c_len' ws k x hx j hj]; exact hu)
   have x0 : wr.cell? ⟨b, off + k * 3, none⟩ = some (.int .i64 x.v) := hcell 0 _ rfl
   have x1 : wr.cell? ⟨b, off + k * 3 + 1, none⟩ = some (.int .u32 x.r) := hcell 1 _ rfl
   have x2 : wr.cell? ⟨b, off + k * 3 + 2, none⟩ = some (.int .u32 x.f) := hcell 2 _ rfl
   have Hx := hide hx
   clear hcell hx
   have hbr : b < wr.heap.size := by omega
   have j0 : (0 : Int) ≤ (k : Int) := by omega
   have d0 := hX.at (j := 0) rfl
   have d1 := hX.at (j := 1) rfl
   have dz : ∀ o, wr.frozen? ⟨w1.heap.size, o, none⟩ = false := hX.2.1
   have Hown := hide hown
   have HX' := hide hX
   have nk : ¬ k = n := by omega
   clear hown hX
   go_wp2_with fail
   have hz0 : w1.heap.size < wr.heap.size := by omega
   refine wp_region_held_drew (S := (fun _ => True)) kR trivial (fun hHeld => ?_)
   refine tq1 0 ?_
   refine wR (rs := [1, 2]) ?_
   focus
    refine aI (fun K hK => ?_) (aE fun K hK => ?_)
    focus
     go_simp
     go_wp2_with fail
     refine oK hK trivial fun hHeld => ?_
     clear hK K
     refine wE 2 fun K hK => ?_
     go_simp
     go_wp2_with fail
     refine oK hK trivial fun hHeld => ?_
     clear hK K
     refine wE 3 fun K hK => ?_
     go_simp
     (go_at_call 88; refine (hist_new2 x _).mono ?_; rintro e w7 ⟨gh, ch, rfl, hch, hgh, hgh2, hrh, hb7'⟩; (try simp at hgh); have hb7 : Below wr.heap.size wr w7 := ((Below.drew (Below.alloc (Below.refl wr.heap.size wr) (Nat.le_refl _) _)).trans (hb7'.mono (by first | omega | (simp; done) | (simp; omega)))); have hs7 := hb7.size; have Hrh := hide hrh; clear hrh; obtain ⟨hcc7, hff7⟩ := bcell hb7; clear hb7'; have hz70 : w1.heap.size < w7.heap.size := oM; have hz71 : wr.heap.size < w7.heap.size := oM)
     go_wp2_with fail
     refine oK hK trivial fun hHeld => ?_
     clear hK K
     refine wE 4 fun K hK => ?_
     go_simp
     go_wp2_with fail
     refine oK hK trivial fun hHeld => ?_
     clear hK K
     refine wE 5 fun K hK => ?_
     refine wp_append_own (.tmp 37) (.tmp 40) 26 rfl (w1.heap.size + 1) 115 i0 _ 1 24 Tryz.underlying26 hi.out iz0.out iz1.out iz2.out rfl dM (.slice Av k capv) k (hs.map histv) (by simp [Act.eval, Act.put]) (own_below Hown.out (ab0)) ⟨w7.heap.size, 0, none⟩ 1 [histv ⟨some ⟨gh, 0, none⟩, ch, [msg0 x]⟩] (by simp [Act.eval, Act.put]) rfl ?_ (by intro u hu; rw [List.mem_singleton.1 hu]; rfl) (by unfold maxLen; omega) oM (by first | omega | (simp; done) | (simp; omega)) (w1.heap.size + 1) wr (ab0) (Nat.le_refl _) ?_; (focus (intro j u hu; refine alloc_cell _ _ _ (by first | omega | (simp; done) | (simp; omega)) ?_; simpa [histv] using hu)); intro v9 w9 how9 hb9 hz9 hst9; obtain ⟨g9, c9, rfl, hc9, hg9, -⟩ := own_some how9.out oM; (try simp at hz9); have d09 := (hb9.cell (p := ⟨w1.heap.size, 0, none⟩) (Nat.lt_succ_self _)).trans d0; have dz9 : ∀ o, w9.frozen? ⟨w1.heap.size, o, none⟩ = false := (fun o => (hb9.frozen (p := ⟨w1.heap.size, o, none⟩) (Nat.lt_succ_self _)).trans (dz o))
     (try go_simp)
     go_wp2_with fail
     refine oK hK trivial fun hHeld => ?_
     clear hK K
     refine tq1 6 ?_
     refine wE 7 fun K hK => ?_
     go_simp
     go_wp2_with fail
     refine oK hK trivial fun hHeld => ?_
     clear hK K
     refine wD ?_
    rotate_left 1
    focus
     go_simp
     go_wp2_with fail
     refine oK hK trivial fun hHeld => ?_
     clear hK K
     refine wR (rs := [1, 3]) ?_
     refine aI (fun K hK => ?_) (aE fun K hK => ?_)
     focus
      go_simp
      go_wp2_with fail
      refine oK hK trivial fun hHeld => ?_
      clear hK K
      refine wE 3 fun K hK => ?_
      go_simp
      (go_at_call 88; refine (hist_new2 x _).mono ?_; rintro e w7 ⟨gh, ch, rfl, hch, hgh, hgh2, hrh, hb7'⟩; (try simp at hgh); have hb7 : Below wr.heap.size wr w7 := ((Below.drew (Below.alloc (Below.refl wr.heap.size wr) (Nat.le_refl _) _)).trans (hb7'.mono (by first | omega | (simp; done) | (simp; omega)))); have hs7 := hb7.size; have Hrh := hide hrh; clear hrh; obtain ⟨hcc7, hff7⟩ := bcell hb7; clear hb7'; have hz70 : w1.heap.size < w7.heap.size := oM; have hz71 : wr.heap.size < w7.heap.size := oM)
      go_wp2_with fail
      refine oK hK trivial fun hHeld => ?_
      clear hK K
      refine wE 4 fun K hK => ?_
      go_simp
      go_wp2_with fail
      refine oK hK trivial fun hHeld => ?_
      clear hK K
      refine wE 5 fun K hK => ?_
      refine wp_append_own (.tmp 37) (.tmp 40) 26 rfl (w1.heap.size + 1) 115 i0 _ 1 24 Tryz.underlying26 hi.out iz0.out iz1.out iz2.out rfl dM (.slice Av k capv) k (hs.map histv) (by simp [Act.eval, Act.put]) (own_below Hown.out (ab0)) ⟨w7.heap.size, 0, none⟩ 1 [histv ⟨some ⟨gh, 0, none⟩, ch, [msg0 x]⟩] (by simp [Act.eval, Act.put]) rfl ?_ (by intro u hu; rw [List.mem_singleton.1 hu]; rfl) (by unfold maxLen; omega) oM (by first | omega | (simp; done) | (simp; omega)) (w1.heap.size + 1) wr (ab0) (Nat.le_refl _) ?_; (focus (intro j u hu; refine alloc_cell _ _ _ (by first | omega | (simp; done) | (simp; omega)) ?_; simpa [histv] using hu)); intro v9 w9 how9 hb9 hz9 hst9; obtain ⟨g9, c9, rfl, hc9, hg9, -⟩ := own_some how9.out oM; (try simp at hz9); have d09 := (hb9.cell (p := ⟨w1.heap.size, 0, none⟩) (Nat.lt_succ_self _)).trans d0; have dz9 : ∀ o, w9.frozen? ⟨w1.heap.size, o, none⟩ = false := (fun o => (hb9.frozen (p := ⟨w1.heap.size, o, none⟩) (Nat.lt_succ_self _)).trans (dz o))
      (try go_simp)
      go_wp2_with fail
      refine oK hK trivial fun hHeld => ?_
      clear hK K
      refine tq1 6 ?_
      refine wE 7 fun K hK => ?_
      go_simp
      go_wp2_with fail
      refine oK hK trivial fun hHeld => ?_
      clear hK K
      refine wD ?_
     rotate_left 1
     focus
      go_simp
      (go_at_call 88; refine (hist_new2 x _).mono ?_; rintro e w7 ⟨gh, ch, rfl, hch, hgh, hgh2, hrh, hb7'⟩; (try simp at hgh); have hb7 : Below wr.heap.size wr w7 := ((Below.drew (Below.alloc (Below.refl wr.heap.size wr) (Nat.le_refl _) _)).trans (hb7'.mono (by first | omega | (simp; done) | (simp; omega)))); have hs7 := hb7.size; have Hrh := hide hrh; clear hrh; obtain ⟨hcc7, hff7⟩ := bcell hb7; clear hb7'; have hz70 : w1.heap.size < w7.heap.size := oM; have hz71 : wr.heap.size < w7.heap.size := oM)
      go_wp2_with fail
      refine oK hK trivial fun hHeld => ?_
      clear hK K
      refine wR (rs := [1, 4]) ?_
      refine aI (fun K hK => ?_) (aE fun K hK => ?_)
      focus
       go_simp
       go_wp2_with fail
       refine oK hK trivial fun hHeld => ?_
       clear hK K
       refine wE 4 fun K hK => ?_
       go_simp
       go_wp2_with fail
       refine oK hK trivial fun hHeld => ?_
       clear hK K
       refine wE 5 fun K hK => ?_
       refine wp_append_own (.tmp 37) (.tmp 40) 26 rfl (w1.heap.size + 1) 115 i0 _ 1 24 Tryz.underlying26 hi.out iz0.out iz1.out iz2.out rfl dM (.slice Av k capv) k (hs.map histv) (by simp [Act.eval, Act.put]) (own_below Hown.out (ab0)) ⟨w7.heap.size, 0, none⟩ 1 [histv ⟨some ⟨gh, 0, none⟩, ch, [msg0 x]⟩] (by simp [Act.eval, Act.put]) rfl ?_ (by intro u hu; rw [List.mem_singleton.1 hu]; rfl) (by unfold maxLen; omega) oM (by first | omega | (simp; done) | (simp; omega)) (w1.heap.size + 1) wr (ab0) (Nat.le_refl _) ?_; (focus (intro j u hu; refine alloc_cell _ _ _ (by first | omega | (simp; done) | (simp; omega)) ?_; simpa [histv] using hu)); intro v9 w9 how9 hb9 hz9 hst9; obtain ⟨g9, c9, rfl, hc9, hg9, -⟩ := own_some how9.out oM; (try simp at hz9); have d09 := (hb9.cell (p := ⟨w1.heap.size, 0, none⟩) (Nat.lt_succ_self _)).trans d0; have dz9 : ∀ o, w9.frozen? ⟨w1.heap.size, o, none⟩ = false := (fun o => (hb9.frozen (p := ⟨w1.heap.size, o, none⟩) (Nat.lt_succ_self _)).trans (dz o))
       (try go_simp)
       go_wp2_with fail
       refine oK hK trivial fun hHeld => ?_
       clear hK K
       refine tq1 6 ?_
       refine wE 7 fun K hK => ?_
       go_simp
       go_wp2_with fail
       refine oK hK trivial fun hHeld => ?_
       clear hK K
       refine wD ?_
      rotate_left 1
      focus
       go_simp
       go_wp2_with fail
       refine oK hK trivial fun hHeld => ?_
       clear hK K
       refine wE 1 fun K hK => ?_
       go_simp
       go_wp2_with fail
       refine oK hK trivial fun hHeld => ?_
       clear hK K
       refine wE 5 fun K hK => ?_
       refine wp_append_own (.tmp 37) (.tmp 40) 26 rfl (w1.heap.size + 1) 115 i0 _ 1 24 Tryz.underlying26 hi.out iz0.out iz1.out iz2.out rfl dM (.slice Av k capv) k (hs.map histv) (by simp [Act.eval, Act.put]) (own_below Hown.out (ab0)) ⟨w7.heap.size, 0, none⟩ 1 [histv ⟨some ⟨gh, 0, none⟩, ch, [msg0 x]⟩] (by simp [Act.eval, Act.put]) rfl ?_ (by intro u hu; rw [List.mem_singleton.1 hu]; rfl) (by unfold maxLen; omega) oM (by first | omega | (simp; done) | (simp; omega)) (w1.heap.size + 1) wr (ab0) (Nat.le_refl _) ?_; (focus (intro j u hu; refine alloc_cell _ _ _ (by first | omega | (simp; done) | (simp; omega)) ?_; simpa [histv] using hu)); intro v9 w9 how9 hb9 hz9 hst9; obtain ⟨g9, c9, rfl, hc9, hg9, -⟩ := own_some how9.out oM; (try simp at hz9); have d09 := (hb9.cell (p := ⟨w1.heap.size, 0, none⟩) (Nat.lt_succ_self _)).trans d0; have dz9 : ∀ o, w9.frozen? ⟨w1.heap.size, o, none⟩ = false := (fun o => (hb9.frozen (p := ⟨w1.heap.size, o, none⟩) (Nat.lt_succ_self _)).trans (dz o))
       (try go_simp)
       go_wp2_with fail
       refine oK hK trivial fun hHeld => ?_
       clear hK K
       refine tq1 6 ?_
       refine wE 7 fun K hK => ?_
       go_simp
       go_wp2_with fail
       refine oK hK trivial fun hHeld => ?_
       clear hK K
       refine wD ?_
      rotate_left 1
     rotate_left 2
    rotate_left 3
   all_goals go_wp2_with fail
   all_goals have hBx : Below w1.heap.size w1 w9 := hB.trans (hb9.mono oM)
   all_goals have hX9 : BoxC w1.heap.size [.slice Av k capv, .slice (some ⟨w.heap.size + 1, 0, none⟩) th th] w9 := ⟨fun j u hu => (hb9.cell (p := ⟨w1.heap.size, j, none⟩) (Nat.lt_succ_self _)).trans (HX'.out.1 j u hu), fun o => dz9 o, by omega⟩
   all_goals have hn9 : HNew (w1.heap.size + 1) (.slice Av k capv) (w7.alloc (.cells #[.slice (some ⟨gh, 0, none⟩) 1 ch] 115)) x ⟨some ⟨gh, 0, none⟩, ch, [msg0 x]⟩ := ⟨gh, ch, rfl, hch, by omega, by simp; omega, own_ne Hown.out (.inr oM), (Hrh.out.below (Below.alloc (Below.refl _ _) (Nat.le_refl _) _)).more sM⟩
   all_goals have hrow9 : HRow (w1.heap.size + 1) (.slice (some ⟨g9, 0, none⟩) (k + 1) c9) (w9.setCell ⟨w1.heap.size, 0, none⟩ (.slice (some ⟨g9, 0, none⟩) (k + 1) c9)) (ws.take k ++ [x]) (hs ++ [⟨some ⟨gh, 0, none⟩, ch, [msg0 x]⟩]) := HRow.snoc (HRow.map hH.out (fun _ _ hh => HNew.set (HNew.app (HNew.below (HNew.below hh hb7) (Below.alloc (Below.refl _ _) (Nat.le_refl _) _)) (by first | omega | (simp; done) | (simp; omega)) hst9.out) (Nat.lt_succ_self _) _)) (HNew.set (HNew.app hn9 (by first | omega | (simp; done) | (simp; omega)) hst9.out) (Nat.lt_succ_self _) _)
   all_goals have htk : ws.take (k + 1) = ws.take k ++ [x] := by rw [List.take_add_one, Hx.out]; rfl
   all_goals refine ⟨⟨k + 1, hs ++ [⟨some ⟨gh, 0, none⟩, ch, [msg0 x]⟩], (.slice (some ⟨g9, 0, none⟩) (k + 1) c9), by go_num, by omega, by simp [hlk], BoxC.store hX9 (o := 0) sM _, ?_, hide (by rw [htk]; exact hrow9), hBx.setCell (p := ⟨w1.heap.size, 0, none⟩) (Nat.le_refl _) _, by simp; omega⟩, by simp [intOf]; omega⟩
   all_goals rw [List.map_append]
   all_goals exact ownsRow_setCell_below how9.out (a := ⟨w1.heap.size, 0, none⟩) (Nat.lt_succ_self _) _
  ·obtain rfl : k = n := by omega
   have d0 := hX.at (j := 0) rfl
   have d1 := hX.at (j := 1) rfl
   have r0r := (hB.cell (p := ⟨w.heap.size, 0, none⟩) (by show w.heap.size < w1.heap.size; omega)).trans r0
   have r1r := (hB.cell (p := ⟨w.heap.size, 1, none⟩) (by show w.heap.size < w1.heap.size; omega)).trans r1
   have f0r : ∀ o, wr.frozen? ⟨w.heap.size, o, none⟩ = false := fun o => (hB.frozen (p := ⟨w.heap.size, o, none⟩) (by show w.heap.size < w1.heap.size; omega)).trans (f0 o)
   have Hown := hide hown
   clear hown hX hX2 f0 r0 r1
   go_wp2_with fail
   have hwk : ws.take k = ws := List.take_of_length_le (by rw [Hw.out]; exact Nat.le_refl _)
   have hH' := hH.out
   rw [hwk] at hH'
   have hrow := HRow.map hH' (fun _ _ hh => HNew.set (o := 1) (HNew.set (o := 0) hh (show w.heap.size < w1.heap.size + 1 by omega) (.slice Av k capv)) (show w.heap.size < w1.heap.size + 1 by omega) (.slice (some ⟨w.heap.size + 1, 0, none⟩) th th))
   obtain ⟨c2, a2, rr⟩ := own_cap' Hown.out
   have offA := own_off Hown.out (C := w.heap.size) oM
   have hvv : Rd w1 w1.heap.size 1 (some ⟨w.heap.size + 1, 0, none⟩) th (List.replicate th (.map none)) := by
    have h := Hrv.out
    rw [show (Value.agg #[Value.map none]).cells = #[Value.map none] from rfl, toList_madeCells_one] at h
    exact h
   have rz : Rd ((wr.setCell ⟨w.heap.size, 0, none⟩ (.slice Av k capv)).setCell ⟨w.heap.size, 1, none⟩ (.slice (some ⟨w.heap.size + 1, 0, none⟩) th th)) ((wr.setCell ⟨w.heap.size, 0, none⟩ (.slice Av k capv)).setCell ⟨w.heap.size, 1, none⟩ (.slice (some ⟨w.heap.size + 1, 0, none⟩) th th)).heap.size 1 Av k (hs.map histv) := Rd.more (Rd.set_off (Rd.set_off rr offA _) offA _) sM
   have vz : Rd ((wr.setCell ⟨w.heap.size, 0, none⟩ (.slice Av k capv)).setCell ⟨w.heap.size, 1, none⟩ (.slice (some ⟨w.heap.size + 1, 0, none⟩) th th)) ((wr.setCell ⟨w.heap.size, 0, none⟩ (.slice Av k capv)).setCell ⟨w.heap.size, 1, none⟩ (.slice (some ⟨w.heap.size + 1, 0, none⟩) th th)).heap.size 1 (some ⟨w.heap.size + 1, 0, none⟩) th (List.replicate th (.map none)) := Rd.more (Rd.set_off (Rd.set_off (hvv.below hB) (OffC.at oM) _) (OffC.at oM) _) (by simp; omega)
   have HM := hide (mem_made hrow hlk c2 a2 rz vz)
   have hms := made_msgs hrow
   have hO : Hid (∀ C, C < w.heap.size → MemV.off C ⟨Av, capv, hs, some ⟨w.heap.size + 1, 0, none⟩, th, List.replicate th ⟨none, fun _ => 0⟩⟩) := hide (fun C hC => mem_made_off hrow hlk (own_off Hown.out (C := C) oM) oM oM)
   have HBz : Hid (Below w.heap.size w ((wr.setCell ⟨w.heap.size, 0, none⟩ (.slice Av k capv)).setCell ⟨w.heap.size, 1, none⟩ (.slice (some ⟨w.heap.size + 1, 0, none⟩) th th))) := hide (Below.setCell (Below.setCell hBr (Nat.le_refl _) _) (Nat.le_refl _) _)
   clear hrow rz vz rr hvv
   refine bodyPost_ret (v := .tuple #[.agg #[.slice Av k capv, .slice (some ⟨w.heap.size + 1, 0, none⟩) th th], .int .i64 0]) (by simp [results, Tryz.results52, go_sem]; (try go_simp)) rfl ⟨⟨Av, capv, hs, some ⟨w.heap.size + 1, 0, none⟩, th, List.replicate th ⟨none, fun _ => 0⟩⟩, (by simp only [hlk, List.length_replicate]), hms, rfl, ?_, hO.out, ?_⟩
   ·with_reducible exact HM.out
   ·with_reducible exact HBz.out
theorem mem_adds_no (m : MemV) (t k : Nat) (h : HistV) (a : VwV) (x : W3) (w : World) (hR : m.R w) (hh : m.hs[k]? = some h) (ha : m.vs[t]? = some a) (hn : m.vs.length ≤ 1000) (hL : m.hs.length ≤ 4096) (hl6 : h.l.length ≤ 1000000) :
   Calls Tryz.prog 154 #[(.agg #[.slice (m).pA (m).hs.length (m).pc, .slice (m).vA (m).vs.length (m).vc]), .int .i64 ((t : Int) + 1), .int .i64 k, (w3V x), .bool false] w fun e w' => ∃ g9 pc' g7 cap' G v' vt, e = .returned (.agg #[.slice (some ⟨g9, 0, none⟩) m.hs.length pc', .slice (some ⟨G, 0, none⟩) m.vs.length m.vs.length]) ∧ w.heap.size ≤ g9 ∧ w.heap.size ≤ g7 ∧ w.heap.size ≤ G ∧ (MemV.with ⟨some ⟨g9, 0, none⟩, pc', m.hs.set k ⟨some ⟨g7, 0, none⟩, cap', h.l ++ [⟨x, (t : Int) + 1, ⟨vt, withF (fun _ => 0) k h.l.length⟩⟩]⟩, m.vA, m.vc, m.vs⟩ (some ⟨G, 0, none⟩) m.vs.length t ⟨v', withF a.f k h.l.length⟩).R w' ∧ Below w.heap.size w w' := by
 obtain ⟨i0, hi0, jz0, jz1, jz2⟩ := info_parts info_hist
 have hi := hide hi0
 have iz0 := hide jz0
 have iz1 := hide jz1
 have iz2 := hide jz2
 clear hi0 jz0 jz1 jz2
 have hkn : k < m.hs.length := (List.getElem?_eq_some_iff.1 hh).1
 have htn : t < m.vs.length := (List.getElem?_eq_some_iff.1 ha).1
 have hhR : h.R m.hs.length w := hR.1.2.2.2 h (List.mem_of_getElem? hh)
 have haR : a.R m.hs.length w := hR.2.2.2.2 a (List.mem_of_getElem? ha)
 have hpl := hR.1
 obtain ⟨b, off, e, hb, c0⟩ := Rd.one hR.1.2.2.1 hkn hh
 obtain ⟨pA, pc, hs, vA, vc, vs⟩ := m
 simp only at e hkn htn hhR haR hn hL hh ha hpl
 subst e
 obtain ⟨hpc, -, hrdP, hallP⟩ := hpl
 have Hpc := hide hpc
 have HrdP := hide hrdP
 have HallP := hide hallP
 obtain ⟨m, hm⟩ : ∃ m, m = MemV.mk (some ⟨b, off, none⟩) pc hs vA vc vs := ⟨_, rfl⟩
 rw [← hm] at hR
 have hseen := fun W (hw : m.R W) => mem_seen m t a W hw (by rw [hm]; exact ha) (by rw [hm]; exact hn)
 have hwith := fun W (hw : a.R hs.length W) => view_with hs.length hL a k h.l.length W hw oM oM (WalkArith.wf_i64 oM)
 have hadd := fun (g : MsgV) W (hw : h.R hs.length W) (hg : g.a.R hs.length W) => hist_add hs.length h g W hw hg hl6
 have hmw : ∀ (p' : Option Addr) (c' : Nat) (hs' : List HistV) (v : VwV) (W : World), MemV.R W ⟨p', c', hs', vA, vc, vs⟩ → hs'.length = hs.length → v.R hs.length W → Calls Tryz.prog 169 #[.agg #[.slice p' hs.length c', .slice vA vs.length vc], .int .i64 ((t : Int) + 1), .agg #[.map v.v]] W fun e w' => ∃ g, e = .returned (.agg #[.slice p' hs.length c', .slice (some ⟨g, 0, none⟩) vs.length vs.length]) ∧ W.heap.size ≤ g ∧ (MemV.with ⟨p', c', hs', vA, vc, vs⟩ (some ⟨g, 0, none⟩) vs.length t v).R w' ∧ Below W.heap.size W w' := by
   intro p' c' hs' v W hw e2 hx
   have hq := mem_with ⟨p', c', hs', vA, vc, vs⟩ t v W hw htn hn (by show v.R hs'.length W; rw [e2]; exact hx)
   simp only [e2] at hq
   exact hq
 simp only [hm] at hseen
 rw [hm] at hR
 have Hseen := hide hseen
 have Hwith := hide hwith
 have Hadd := hide hadd
 have Hmw := hide hmw
 have HR := hide hR
 have Hh := hide hhR
 have HaR := hide haR
 have h0 : (0 : Int) ≤ (k : Int) := by omega
 have h1 : (k : Int) < (hs.length : Int) := by omega
 have hbz1 : b < w.heap.size + 1 := by omega
 have hbz2 : b < w.heap.size + 1 + 1 := by omega
 have hbz : b < w.heap.size + 1 + 1 + 1 := by omega
 have hbz3 : b < w.heap.size + 1 + 1 + 1 + 1 := by omega
 have hk6 : k < 4096 := by omega
 have HL6 := hide hL
 have Hl6 := hide hl6
 unfold histv at c0
 clear hR hhR haR hh ha hn hL hl6 hm hseen hwith hadd hmw hpc hrdP hallP
 go_enter Tryz.func154, Tryz.ntmps154
 go_wp2_with fail
 obtain ⟨w1, hw1⟩ : ∃ W : World, W = ((((w.alloc (.cells #[.slice (some ⟨b, off, none⟩) hs.length pc, .slice vA vs.length vc] 29)).alloc (.cells #[.int .i64 x.v, .int .u32 x.r, .int .u32 x.f] 66)).alloc (.cells #[.slice none 0 0, .slice none 0 0] 29)).alloc (.cells #[.slice h.A h.l.length h.cap] 115)) := ⟨_, rfl⟩
 have hs1 : w.heap.size + 1 + 1 + 1 + 1 ≤ w1.heap.size := by rw [hw1]; simp
 have q0 : w1.cell? ⟨w.heap.size, 0, none⟩ = some (.slice (some ⟨b, off, none⟩) hs.length pc) := by rw [hw1]; go_simp
 have q1 : w1.cell? ⟨w.heap.size, 1, none⟩ = some (.slice vA vs.length vc) := by rw [hw1]; go_simp
 have x0 : w1.cell? ⟨w.heap.size + 1, 0, none⟩ = some (.int .i64 x.v) := by rw [hw1]; go_simp
 have x1 : w1.cell? ⟨w.heap.size + 1, 1, none⟩ = some (.int .u32 x.r) := by rw [hw1]; go_simp
 have x2 : w1.cell? ⟨w.heap.size + 1, 2, none⟩ = some (.int .u32 x.f) := by rw [hw1]; go_simp
 have r0 : w1.cell? ⟨w.heap.size + 1 + 1, 0, none⟩ = some (.slice none 0 0) := by rw [hw1]; go_simp
 have r1 : w1.cell? ⟨w.heap.size + 1 + 1, 1, none⟩ = some (.slice none 0 0) := by rw [hw1]; go_simp
 have q2 : w1.cell? ⟨w.heap.size + 1 + 1 + 1, 0, none⟩ = some (.slice h.A h.l.length h.cap) := by rw [hw1]; go_simp
 have fN : ∀ o, w1.frozen? ⟨w.heap.size, o, none⟩ = false := by intro o; rw [hw1]; go_simp
 have f1 : ∀ o, w1.frozen? ⟨w.heap.size + 1 + 1, o, none⟩ = false := by intro o; rw [hw1]; go_simp
 have hBa : Below w.heap.size w w1 := by rw [hw1]; exact ab0
 have HS : HX w.heap.size [.slice (some ⟨b, off, none⟩) hs.length pc, .slice vA vs.length vc] (w.heap.size + 1 + 1 + 1) 0 (.slice h.A h.l.length h.cap) [] w1 := ⟨BoxC.of2 q0 q1 (by intro o; exact fN o), CellB.of q2, by simp⟩
 rw [← hw1]
 clear hw1
 have hz1 : w.heap.size < w1.heap.size := by omega
 have hz1a : w.heap.size + 1 < w1.heap.size := by omega
 have hz1b : w.heap.size + 1 + 1 < w1.heap.size := by omega
 have hz1c : w.heap.size + 1 + 1 + 1 < w1.heap.size := by omega
 have hz1d : b < w1.heap.size := by omega
 go_cut [12] from 21 to 62 (fun s12 wx => ∃ (B12 : Nat) (v4 : Option Nat), s12 = .pointer (some ⟨B12, 0, none⟩) ∧ w1.heap.size ≤ B12 ∧ wx.cell? ⟨B12, 0, none⟩ = some (.map v4) ∧ Hid (VwR hs.length ⟨v4, withF a.f k h.l.length⟩ wx) ∧ Below w1.heap.size w1 wx)
 case first =>
   exact abD2
 case rest =>
  obtain ⟨B12, v4, rfl, hz12, p0, Hv4, hBc⟩ := hcut
  have hbc : ∀ x o, x < w1.heap.size → wc.cell? ⟨x, o, none⟩ = w1.cell? ⟨x, o, none⟩ := fun x o hx => hBc.cell (p := ⟨x, o, none⟩) hx
  have hfc : ∀ x o, x < w1.heap.size → wc.frozen? ⟨x, o, none⟩ = w1.frozen? ⟨x, o, none⟩ := fun x o hx => hBc.frozen (p := ⟨x, o, none⟩) hx
  have q0c := (hbc _ 0 hz1).trans q0
  have q1c := (hbc _ 1 hz1).trans q1
  have q2c := (hbc _ 0 hz1c).trans q2
  have x0c := (hbc _ 0 hz1a).trans x0
  have x1c := (hbc _ 1 hz1a).trans x1
  have x2c := (hbc _ 2 hz1a).trans x2
  have r0c := (hbc _ 0 hz1b).trans r0
  have r1c := (hbc _ 1 hz1b).trans r1
  have fNc : ∀ o, wc.frozen? ⟨w.heap.size, o, none⟩ = false := fun o => (hfc _ o hz1).trans (fN o)
  have f1c : ∀ o, wc.frozen? ⟨w.heap.size + 1 + 1, o, none⟩ = false := fun o => (hfc _ o hz1b).trans (f1 o)
  have hBw : Below w.heap.size w wc := hBa.trans (hBc.mono oM)
  have hsc := hBc.size
  have hzc : w.heap.size < wc.heap.size := by omega
  have hzca : w.heap.size + 1 < wc.heap.size := by omega
  have hzcb : w.heap.size + 1 + 1 < wc.heap.size := by omega
  have hzcc : w.heap.size + 1 + 1 + 1 < wc.heap.size := by omega
  have hzcd : b < wc.heap.size := by omega
  have hzce : B12 < wc.heap.size := cell_lt p0
  clear q0 q1 q2 x0 x1 x2 r0 r1 fN f1 hbc hfc HS c0 hBc hBa Hseen Hwith hz1 hz1a hz1b hz1c hz1d
  have e1 : wrap64 ((k : Int) + 1) = (k : Int) + 1 := by unfold wrap64; omega
  have e2 : (0 : Int) ≤ (k : Int) + 1 := by omega
  have e3 : (k : Int) + 1 ≤ (hs.length : Int) := by omega
  have e4 : ((k : Int) + 1).toNat = k + 1 := by omega
  have e5 : (k : Int) ≤ (pc : Int) := by have := Hpc.out; omega
  have e6 : (hs.length : Int) ≤ (pc : Int) := by have := Hpc.out; omega
  obtain ⟨A14, c14, hA14, hR14⟩ := tail_rd HrdP.out (k := k) oM Hpc.out
  have hRk := hide (Rd.take1 HrdP.out (k := k) oM)
  clear h0 h1
  have hlen0 := fun W => hist_len h W
  have hwz := fun W => view_with hs.length HL6.out ⟨none, fun _ => 0⟩ k h.l.length W (VwV.R.nil _ _) oM oM (WalkArith.wf_i64 (by have := Hl6.out; omega))
  have Hwz := hide hwz
  clear hwz
  go_upto_region 6 with (first
    | (go_at_call 46; refine (hist_len h _).mono ?_; rintro e w3 ⟨rfl, hb3⟩; obtain ⟨hcc3, hff3, hs3⟩ := bC hb3; (try simp at hs3); have zw30 : w.heap.size < w3.heap.size := oM; have zw31 : w.heap.size + 1 < w3.heap.size := oM; have zw32 : w.heap.size + 1 + 1 < w3.heap.size := oM; have zw33 : w.heap.size + 1 + 1 + 1 < w3.heap.size := oM; have zw34 : wc.heap.size < w3.heap.size := oM; have zw35 : B12 < w3.heap.size := oM; have zw36 : b < w3.heap.size := oM)
    | (go_at_call 167; refine (Hwz.out _).mono ?_; rintro e w5 ⟨vt, rfl, hvt, hb5⟩; obtain ⟨hcc5, hff5, hs5⟩ := bC hb5; (try simp at hs5); have zw50 : w.heap.size < w5.heap.size := oM; have zw51 : w.heap.size + 1 < w5.heap.size := oM; have zw52 : w.heap.size + 1 + 1 < w5.heap.size := oM; have zw53 : w.heap.size + 1 + 1 + 1 < w5.heap.size := oM; have zw54 : wc.heap.size < w5.heap.size := oM; have zw55 : B12 < w5.heap.size := oM; have zw56 : b < w5.heap.size := oM; have Hvt := hide hvt; clear hvt))
  have c13 : w5.cell? ⟨wc.heap.size, 0, none⟩ = some (.map v4) := by go_simp
  obtain ⟨w6, hw6⟩ : ∃ W : World, W = w5.setCell ⟨wc.heap.size, 0, none⟩ (.map vt) := ⟨_, rfl⟩
  have hs6 : wc.heap.size + 1 ≤ w6.heap.size := by rw [hw6]; simp; omega
  have hB6 : Below wc.heap.size wc w6 := by rw [hw6]; exact ab0
  have hbc6 : ∀ x o, x < wc.heap.size → w6.cell? ⟨x, o, none⟩ = wc.cell? ⟨x, o, none⟩ := fun x o hx => hB6.cell (p := ⟨x, o, none⟩) hx
  have y0 : w6.cell? ⟨wc.heap.size, 0, none⟩ = some (.map vt) := by rw [hw6]; go_simp
  have Hv6 : Hid (VwR hs.length ⟨v4, withF a.f k h.l.length⟩ w6) := hide (Hv4.out.below hB6)
  have Hvt6 : Hid (VwV.R hs.length w6 ⟨vt, withF (fun _ => 0) k h.l.length⟩) := hide (by rw [hw6]; exact VwV.R.setCell Hvt.out c13 _)
  have p06 := (hbc6 _ 0 hzce).trans p0
  have q06 := (hbc6 _ 0 hzc).trans q0c
  have q16 := (hbc6 _ 1 hzc).trans q1c
  have q26 := (hbc6 _ 0 hzcc).trans q2c
  have r06 := (hbc6 _ 0 hzcb).trans r0c
  have r16 := (hbc6 _ 1 hzcb).trans r1c
  have fN6 : ∀ o, w6.frozen? ⟨w.heap.size, o, none⟩ = false := fun o => (hB6.frozen (p := ⟨_, o, none⟩) hzc).trans (fNc o)
  have f16 : ∀ o, w6.frozen? ⟨w.heap.size + 1 + 1, o, none⟩ = false := fun o => (hB6.frozen (p := ⟨_, o, none⟩) hzcb).trans (f1c o)
  have x06 := (hbc6 _ 0 hzca).trans x0c
  have x16 := (hbc6 _ 1 hzca).trans x1c
  have x26 := (hbc6 _ 2 hzca).trans x2c
  have hz6 : w.heap.size < w6.heap.size := by omega
  have hz6a : w.heap.size + 1 < w6.heap.size := by omega
  have hz6b : w.heap.size + 1 + 1 < w6.heap.size := by omega
  have hz6c : w.heap.size + 1 + 1 + 1 < w6.heap.size := by omega
  have hz6d : wc.heap.size < w6.heap.size := by omega
  have hz6e : B12 < w6.heap.size := by omega
  have hz6f : b < w6.heap.size := by omega
  have hB06 : Below w.heap.size w w6 := hBw.trans (hB6.mono oM)
  rw [← hw6]
  clear hw6 Hv4 hbc6 c13 Hvt hcc3 hff3 hcc5 hff5 hb3 hb5 p0 q0c q1c q2c x0c x1c x2c r0c r1c fNc f1c
  go_wp2_with fail
  refine wp_region_held_drew (S := (fun W => W.cell? ⟨w.heap.size, 0, none⟩ = some (.slice (some ⟨b, off, none⟩) hs.length pc) ∧ W.cell? ⟨w.heap.size + 1 + 1 + 1, 0, none⟩ = some (.slice h.A h.l.length h.cap) ∧ (W.cell? ⟨w.heap.size + 1, 0, none⟩ = some (.int .i64 x.v) ∧ W.cell? ⟨w.heap.size + 1, 1, none⟩ = some (.int .u32 x.r) ∧ W.cell? ⟨w.heap.size + 1, 2, none⟩ = some (.int .u32 x.f)) ∧ W.cell? ⟨wc.heap.size, 0, none⟩ = some (.map vt))) kR ab13 (fun hHeld => ?_)
  refine tq1 0 ?_
  refine tq1 1 ?_
  refine tq1 2 ?_
  refine tq1 3 ?_
  refine tq1 4 ?_
  refine tq1 5 ?_
  refine tq1 6 ?_
  refine tq1 7 ?_
  refine tq1 8 ?_
  refine tq1 9 ?_
  refine wE 10 fun K hK => ?_
  go_simp
  (go_at_call 168; refine (Hadd.out ⟨x, (t : Int) + 1, ⟨vt, withF (fun _ => 0) k h.l.length⟩⟩ _ (Hh.out.below ab0) (Hvt6.out.below ab0)).mono ?_; rintro e w7 ⟨g7, c7, rfl, hg7, hh7, hb7'⟩; (try simp at hg7); have hb7 : Below _ _ w7 := (by first | with_reducible exact noDrew hb7' | exact hb7'); have hsw7 := (hb7).size; (try simp at hsw7); have Hh7 := hide hh7; clear hh7; obtain ⟨hcc7, hff7⟩ := bcell hb7; have hz7 : w.heap.size < w7.heap.size := oM; have hz7a : w.heap.size + 1 < w7.heap.size := oM; have hz7b : w.heap.size + 1 + 1 < w7.heap.size := oM; have hz7c : w.heap.size + 1 + 1 + 1 < w7.heap.size := oM; have hz7d : wc.heap.size < w7.heap.size := oM; have hz7e : B12 < w7.heap.size := oM; have hz7f : b < w7.heap.size := oM)
  go_wp2_with fail
  refine oK hK ab13 fun hHeld => ?_
  clear hK K
  refine wE 11 fun K hK => ?_
  go_simp
  go_wp2_with fail
  refine oK hK ab13 fun hHeld => ?_
  clear hK K
  refine wE 12 fun K hK => ?_
  refine wp_append_one (.tmp 45) (.tmp 52) 26 rfl 115 i0 _ 1 24 Tryz.underlying26 hi.out iz0.out iz1.out iz2.out rfl w.heap.size (some ⟨b, off, none⟩) k ((hs.take k).map histv) (by simp [Act.eval, Act.put]) (hRk.out.below ab0) (fun e => by cases e) ⟨w7.heap.size, 0, none⟩ 1 [histv ⟨some ⟨g7, 0, none⟩, c7, h.l ++ [⟨x, (t : Int) + 1, ⟨vt, withF (fun _ => 0) k h.l.length⟩⟩]⟩] (by simp [Act.eval, Act.put]) rfl ?_ (by unfold maxLen; omega) oM ?_; (focus (intro j u hu; refine alloc_cell _ _ _ sM ?_; simpa [histv] using hu)); intro cp8 w8 how8 hb8' hz8; have hb8 : Below _ _ w8 := (by first | with_reducible exact noDrew hb8' | exact hb8'); have hsw8 := (hb8).size; (try simp at hsw8); obtain ⟨hcc8, hff8⟩ := bcell hb8; have hz8 : w.heap.size < w8.heap.size := oM; have hz8a : w.heap.size + 1 < w8.heap.size := oM; have hz8b : w.heap.size + 1 + 1 < w8.heap.size := oM; have hz8c : w.heap.size + 1 + 1 + 1 < w8.heap.size := oM; have hz8d : wc.heap.size < w8.heap.size := oM; have hz8e : B12 < w8.heap.size := oM; have hz8f : b < w8.heap.size := oM
  (try go_simp)
  go_wp2_with fail
  refine oK hK ab13 fun hHeld => ?_
  clear hK K
  refine tq1 13 ?_
  refine wD ?_
  have Hp0 := Hpc.out
  have hL6 := HL6.out
  have hnb : (k + 1 + (hs.length - (k + 1))) * 24 ≤ 140737488355328 := by omega
  have hnm : k + 1 + (hs.length - (k + 1)) ≤ maxLen := by unfold maxLen; omega
  have Hown8 := hide (by simpa using how8.out : w8.ownsRow (w7.heap.size + 1) 115 1 (.slice (some ⟨w7.heap.size + 1, 0, none⟩) (k + 1) cp8) (k + 1) ((hs.take k).map histv ++ [histv ⟨some ⟨g7, 0, none⟩, c7, h.l ++ [⟨x, (t : Int) + 1, ⟨vt, withF (fun _ => 0) k h.l.length⟩⟩]⟩]))
  have hB7 : Below w.heap.size w w7 := ab0
  have hB8 : Below w.heap.size w w8 := ab0
  have HR14 := hide (hR14.out.below hB8)
  have hone : ∀ u ∈ (hs.drop (k + 1)).map histv, u.oneCell' = true := by
    intro u hu
    obtain ⟨y, -, rfl⟩ := List.mem_map.1 hu
    rfl
  have hlen : k + 1 + (hs.length - (k + 1)) = hs.length := by omega
  go_wp2_with (first
    | (at_builtin; refine wpList_append_rd rfl _ _ 26 rfl (w7.heap.size + 1) 115 i0 _ 1 24 Tryz.underlying26 hi.out iz0.out iz1.out iz2.out rfl oM (.slice (some ⟨w7.heap.size + 1, 0, none⟩) (k + 1) cp8) (k + 1) ((hs.take k).map histv ++ [histv ⟨some ⟨g7, 0, none⟩, c7, h.l ++ [⟨x, (t : Int) + 1, ⟨vt, withF (fun _ => 0) k h.l.length⟩⟩]⟩]) rfl Hown8.out A14 (hs.length - (k + 1)) c14 ((hs.drop (k + 1)).map histv) rfl w.heap.size HR14.out hone hnm hnb oM (w7.heap.size + 1) w8 (Below.refl _ _) (Nat.le_refl _) ?_; intro v9 w9 how9 hb9 hz9; rw [hlen] at how9; obtain ⟨g9, c9, rfl, hc9, hg9, hr9⟩ := own_some how9 oM; clear how9; have Hr9 := hide hr9; clear hr9; have hB89 : Below w7.heap.size w7 w9 := ((Below.alloc (Below.refl w7.heap.size w7) (Nat.le_refl _) _).trans (hb8.mono sM)).trans (hb9.mono oM); have hB69 : Below w6.heap.size w6 w9 := hb7.trans (hB89.mono hsw7); have hc69 : ∀ x o, x < w6.heap.size → w9.cell? ⟨x, o, none⟩ = w6.cell? ⟨x, o, none⟩ := (fun x o hx => hB69.cell (p := ⟨x, o, none⟩) hx); have q09 := (hc69 _ 0 hz6).trans q06; have q19 := (hc69 _ 1 hz6).trans q16; have p09 := (hc69 _ 0 hz6e).trans p06; have r09 := (hc69 _ 0 hz6b).trans r06; have r19 := (hc69 _ 1 hz6b).trans r16; have fN9 : ∀ o, w9.frozen? ⟨w.heap.size, o, none⟩ = false := (fun o => (hB69.frozen (p := ⟨_, o, none⟩) hz6).trans (fN6 o)); have f19 : ∀ o, w9.frozen? ⟨w.heap.size + 1 + 1, o, none⟩ = false := (fun o => (hB69.frozen (p := ⟨_, o, none⟩) hz6b).trans (f16 o)); have hB09 : Below w.heap.size w w9 := hB06.trans (hB69.mono oM); have n12 : ¬ B12 = w.heap.size := oM; have n13 : ¬ w.heap.size = B12 := oM; clear hc69 hcc7 hff7 hcc8 hff8 q06 q16 p06 r06 r16 fN6 f16; have ng9 : w.heap.size ≠ g9 := oM; have ng7 : w.heap.size ≠ g7 := oM; have hB10 : Below w.heap.size w (w9.setCell ⟨w.heap.size, 0, none⟩ (.slice (some ⟨g9, 0, none⟩) hs.length c9)) := hB09.setCell (p := ⟨w.heap.size, 0, none⟩) (Nat.le_refl _) _; have hrd10 : Rd (w9.setCell ⟨w.heap.size, 0, none⟩ (.slice (some ⟨g9, 0, none⟩) hs.length c9)) (w9.setCell ⟨w.heap.size, 0, none⟩ (.slice (some ⟨g9, 0, none⟩) hs.length c9)).heap.size 1 (some ⟨g9, 0, none⟩) hs.length ((hs.take k).map histv ++ [histv ⟨some ⟨g7, 0, none⟩, c7, h.l ++ [⟨x, (t : Int) + 1, ⟨vt, withF (fun _ => 0) k h.l.length⟩⟩]⟩] ++ (hs.drop (k + 1)).map histv) := Rd.more (Rd.set_far Hr9.out ng9 _) sM; have hh10 : HistV.R hs.length (w9.setCell ⟨w.heap.size, 0, none⟩ (.slice (some ⟨g9, 0, none⟩) hs.length c9)) ⟨some ⟨g7, 0, none⟩, c7, h.l ++ [⟨x, (t : Int) + 1, ⟨vt, withF (fun _ => 0) k h.l.length⟩⟩]⟩ := histR_set (Hh7.out.below hB89) rfl ng7 (HasC.of q09) _; have HM : Hid (MemV.R (w9.setCell ⟨w.heap.size, 0, none⟩ (.slice (some ⟨g9, 0, none⟩) hs.length c9)) ⟨some ⟨g9, 0, none⟩, c9, hs.set k ⟨some ⟨g7, 0, none⟩, c7, h.l ++ [⟨x, (t : Int) + 1, ⟨vt, withF (fun _ => 0) k h.l.length⟩⟩]⟩, vA, vc, vs⟩) := hide (mem_put (m := ⟨some ⟨b, off, none⟩, pc, hs, vA, vc, vs⟩) (k := k) (n := hs.length) (h' := ⟨some ⟨g7, 0, none⟩, c7, h.l ++ [⟨x, (t : Int) + 1, ⟨vt, withF (fun _ => 0) k h.l.length⟩⟩]⟩) HR.out hB10 (Eq.refl _) hkn hrd10 (Eq.refl _) hc9 hh10); have Hrd10 := hide hrd10; have Hh10 := hide hh10; clear hrd10 hh10; have HV10 : Hid (VwR hs.length ⟨v4, withF a.f k h.l.length⟩ (w9.setCell ⟨w.heap.size, 0, none⟩ (.slice (some ⟨g9, 0, none⟩) hs.length c9))) := hide ((Hv6.out.below hB69).set (HasC.of q09) _))
    | (go_at_call 169; refine (Hmw.out _ _ _ ⟨v4, _⟩ _ HM.out sM HV10.out).mono ?_; rintro e wE ⟨G, rfl, hG, hmE, hbE⟩; (try simp at hG); have HrdE := hide ((Hrd10.out.below hbE).more hbE.size); have HhE := hide (Hh10.out.below hbE); have HvE : Hid (NewV hs.length G vs.length (vs.set t ⟨v4, withF a.f k h.l.length⟩) ⟨v4, withF a.f k h.l.length⟩ wE) := hide (by have q := NewV.of (m := ⟨some ⟨g9, 0, none⟩, c9, hs.set k ⟨some ⟨g7, 0, none⟩, c7, h.l ++ [⟨x, (t : Int) + 1, ⟨vt, withF (fun _ => 0) k h.l.length⟩⟩]⟩, vA, vc, vs⟩) rfl htn hmE; simp only [List.length_set] at q; exact q); clear hmE; have hsE := hbE.size; (try simp at hsE); have hzE : w.heap.size + 1 + 1 < w9.heap.size := oM; have hBE : Below w.heap.size w wE := hB10.trans (hbE.mono (by simp; omega)); obtain ⟨hccE, hffE⟩ := bcell hbE))
  have sE0 : wE.cell? ⟨w.heap.size + 1 + 1, 0, none⟩ = some (.slice none 0 0) := by go_simp
  have sE1 : wE.cell? ⟨w.heap.size + 1 + 1, 1, none⟩ = some (.slice none 0 0) := by go_simp
  have ng9' : w.heap.size + 1 + 1 ≠ g9 := by omega
  have ng7' : w.heap.size + 1 + 1 ≠ g7 := by omega
  have ngG : w.heap.size + 1 + 1 ≠ G := by omega
  have hGw : w.heap.size ≤ G := by omega
  have hgw9 : w.heap.size ≤ g9 := by omega
  have hgw7 : w.heap.size ≤ g7 := by omega
  have hBZ : Below w.heap.size w ((wE.setCell ⟨w.heap.size + 1 + 1, 0, none⟩ (.slice (some ⟨g9, 0, none⟩) hs.length c9)).setCell ⟨w.heap.size + 1 + 1, 1, none⟩ (.slice (some ⟨G, 0, none⟩) vs.length vs.length)) := Below.setCell (Below.setCell hBE ab4 _) ab4 _
  have hrdZ : Rd ((wE.setCell ⟨w.heap.size + 1 + 1, 0, none⟩ (.slice (some ⟨g9, 0, none⟩) hs.length c9)).setCell ⟨w.heap.size + 1 + 1, 1, none⟩ (.slice (some ⟨G, 0, none⟩) vs.length vs.length)) ((wE.setCell ⟨w.heap.size + 1 + 1, 0, none⟩ (.slice (some ⟨g9, 0, none⟩) hs.length c9)).setCell ⟨w.heap.size + 1 + 1, 1, none⟩ (.slice (some ⟨G, 0, none⟩) vs.length vs.length)).heap.size 1 (some ⟨g9, 0, none⟩) hs.length ((hs.take k).map histv ++ [histv ⟨some ⟨g7, 0, none⟩, c7, h.l ++ [⟨x, (t : Int) + 1, ⟨vt, withF (fun _ => 0) k h.l.length⟩⟩]⟩] ++ (hs.drop (k + 1)).map histv) := Rd.more (Rd.set_far (Rd.set_far HrdE.out ng9' _) ng9' _) sM
  have hhZ : HistV.R hs.length ((wE.setCell ⟨w.heap.size + 1 + 1, 0, none⟩ (.slice (some ⟨g9, 0, none⟩) hs.length c9)).setCell ⟨w.heap.size + 1 + 1, 1, none⟩ (.slice (some ⟨G, 0, none⟩) vs.length vs.length)) ⟨some ⟨g7, 0, none⟩, c7, h.l ++ [⟨x, (t : Int) + 1, ⟨vt, withF (fun _ => 0) k h.l.length⟩⟩]⟩ := histR_set (histR_set HhE.out rfl ng7' (HasC.of sE0) _) rfl ng7' (HasC.set (HasC.of sE1) _) _
  have hvZ := NewV.set (NewV.set HvE.out ngG (HasC.of sE0) (.slice (some ⟨g9, 0, none⟩) hs.length c9)) ngG (HasC.set (HasC.of sE1) _) (.slice (some ⟨G, 0, none⟩) vs.length vs.length)
  have hMZ : MemV.R ((wE.setCell ⟨w.heap.size + 1 + 1, 0, none⟩ (.slice (some ⟨g9, 0, none⟩) hs.length c9)).setCell ⟨w.heap.size + 1 + 1, 1, none⟩ (.slice (some ⟨G, 0, none⟩) vs.length vs.length)) ⟨some ⟨g9, 0, none⟩, c9, hs.set k ⟨some ⟨g7, 0, none⟩, c7, h.l ++ [⟨x, (t : Int) + 1, ⟨vt, withF (fun _ => 0) k h.l.length⟩⟩]⟩, vA, vc, vs⟩ := mem_put (m := ⟨some ⟨b, off, none⟩, pc, hs, vA, vc, vs⟩) (k := k) (n := hs.length) (h' := ⟨some ⟨g7, 0, none⟩, c7, h.l ++ [⟨x, (t : Int) + 1, ⟨vt, withF (fun _ => 0) k h.l.length⟩⟩]⟩) HR.out hBZ (Eq.refl _) hkn hrdZ (Eq.refl _) hc9 hhZ
  have HMZ := hide (MemV.with_R (g := G) (t := t) (n := vs.length) (a := ⟨v4, withF a.f k h.l.length⟩) hMZ (Below.refl _ _) (Eq.refl _) hvZ.rd (by show VwV.R (hs.set k ⟨some ⟨g7, 0, none⟩, c7, h.l ++ [⟨x, (t : Int) + 1, ⟨vt, withF (fun _ => 0) k h.l.length⟩⟩]⟩).length _ _; rw [List.length_set]; exact hvZ.r))
  have HBZ := hide hBZ
  clear hrdZ hhZ hvZ hMZ hBZ
  refine bodyPost_ret (v := .agg #[.slice (some ⟨g9, 0, none⟩) hs.length c9, .slice (some ⟨G, 0, none⟩) vs.length vs.length]) (by simp [results, Tryz.results154, go_sem]; (try go_simp)) rfl ⟨g9, c9, g7, c7, G, v4, vt, rfl, hgw9, hgw7, hGw, ?_, ?_⟩
  · with_reducible exact HMZ.out
  · with_reducible exact HBZ.out
end Go.Proofs.YtnnmenmifphadaaGreatDoor
namespace Go.Proofs.YtnnmenmifphadaaGreatDoor
open Go.RowKit
def setCells (w : World) (b o : Nat) : List Value → World
 | [] => w
 | v :: vs => setCells (w.setCell ⟨b, o, none⟩ v) b (o + 1) vs
def setRange {α : Type} (xs : List α) (i : Nat) : List α → List α
 | [] => xs
 | v :: vs => setRange (xs.set i v) (i + 1) vs
theorem Rd.setCells {B size n b off : Nat} : ∀ (vs : List Value) {w : World} {xs : List Value} {i : Nat}, Rd w B size (some ⟨b, off, none⟩) n xs → i + vs.length ≤ xs.length → Rd (setCells w b (off + i) vs) B size (some ⟨b, off, none⟩) n (setRange xs i vs)
 | [], w, xs, i, h, _ => h
 | v :: vs, w, xs, i, h, hl => by
  rw [List.length_cons] at hl
  exact Rd.setCells vs (i := i + 1) (Rd.setAt h (i := i) oM v) (by rw [List.length_set]; omega)
theorem setRange_eq {α : Type} : ∀ (vs xs : List α) (i : Nat), i + vs.length ≤ xs.length → setRange xs i vs = xs.take i ++ vs ++ xs.drop (i + vs.length)
 | [], xs, i, _ => by simp [setRange]
 | v :: vs, xs, i, h => by
  rw [List.length_cons] at h
  rw [setRange, setRange_eq vs _ _ (by rw [List.length_set]; omega), List.length_cons]
  have h1 : (xs.set i v).take (i + 1) = xs.take i ++ [v] := by
   rw [List.take_add_one, List.take_set_of_le (Nat.le_refl _), List.getElem?_set_self oM]
   rfl
  have h2 : (xs.set i v).drop (i + 1 + vs.length) = xs.drop (i + (vs.length + 1)) := by
   rw [List.drop_set_of_lt oM, show i + 1 + vs.length = i + (vs.length + 1) by omega]
  rw [h1, h2]
  simp
theorem flatMap_put {α β : Type} {s : Nat} {g : α → List β} (hg : ∀ a, (g a).length = s) (l : List α) (j : Nat) (a' : α) (hj : j < l.length) : setRange (l.flatMap g) (j * s) (g a') = (l.set j a').flatMap g := by
 have hlen : ∀ l : List α, (l.flatMap g).length = l.length * s := by
  intro l
  induction l with
  | nil => simp
  | cons a l ih => rw [List.flatMap_cons, List.length_append, ih, hg, List.length_cons, Nat.succ_mul]; omega
 have h1 : (j + 1) * s ≤ l.length * s := Nat.mul_le_mul_right _ hj
 rw [Nat.succ_mul] at h1
 rw [setRange_eq _ _ _ (by rw [hg, hlen]; exact h1), hg, List.set_eq_take_append_cons_drop, if_pos hj]
 rw [List.flatMap_append, List.flatMap_cons]
 have e1 : (l.flatMap g).take (j * s) = (l.take j).flatMap g := by
  conv => lhs; rw [← List.take_append_drop j l, List.flatMap_append]
  rw [List.take_append_of_le_length (by rw [hlen, List.length_take, Nat.min_eq_left oM]; exact Nat.le_refl _), List.take_of_length_le (by rw [hlen, List.length_take, Nat.min_eq_left oM]; exact Nat.le_refl _)]
 have e2 : (l.flatMap g).drop (j * s + s) = (l.drop (j + 1)).flatMap g := by
  conv => lhs; rw [← List.take_append_drop (j + 1) l, List.flatMap_append]
  have hx : ((l.take (j + 1)).flatMap g).length = j * s + s := by rw [hlen, List.length_take, Nat.min_eq_left oM, Nat.succ_mul]
  rw [← hx, List.drop_left]
 rw [e1, e2, List.append_assoc]
end Go.Proofs.YtnnmenmifphadaaGreatDoor
