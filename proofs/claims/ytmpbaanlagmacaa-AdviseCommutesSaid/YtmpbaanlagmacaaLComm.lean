/- AdviseCommutes: exchanging two adjacent events of different threads changes no recommended rest and no failure count. No condition. -/
import Derived.Test.YtmpbaanlagmacaaRows
import Derived.Test.YtmpbaanlagmacaaFr
import Derived.Test.YtmpbaanlagmacaaA6
import Derived.Test.YtmpbaanlagmacaaA7
import Derived.Deep.QuietTactic
import Derived.BigQuiet
import Derived.BigRegion
import Derived.Deep.RegionHeld3
namespace Go.Proofs.Ytmpbaanlagmacaa.lawComm
open Go.ChangeShapes Go.WideShapes Go.ChangeAt Go.RowKit Go.Maps

theorem info_note : (Try.prog.info? 61).map (fun i => (i.zero, i.size, i.bytes)) = some (some (.agg #[.int .i64 0, .bool false, .int .i64 0]), 3, 24) := by kernel_rfl

theorem own_form {w : World} {base size n : Nat} {e : TypeId} {v : Value} {xs : List Value} (h : w.ownsRow base e size v n xs) (hn : 0 < n) : ∃ g cap, v = .slice (some ⟨g, 0, none⟩) n cap ∧ base ≤ g ∧ g < w.heap.size := by
  have hlt := h.lt
  obtain ⟨_, h2⟩ := h
  rcases h2 with ⟨_, h0⟩ | ⟨g, cap, cur, rfl, hg, _⟩
  · omega
  · exact ⟨g, cap, rfl, hg, (hlt g rfl).2⟩
theorem own_cells {w : World} {base size n : Nat} {e : TypeId} {v : Value} {xs : List Value} (h : w.ownsRow base e size v n xs) {g : Nat} (hg : v.ownBlock = some g) (j : Nat) (u : Value) (hu : xs[j]? = some u) : w.cell? ⟨g, j, none⟩ = some u := by
  have := @World.ownsRow.cells _ _ _ _ _ _ _ h g hg j u hu
  rw [Go.WideShapes.add_plain] at this
  simpa using this
theorem own_drew {w : World} {base size n : Nat} {e : TypeId} {v : Value} {xs : List Value} (h : w.ownsRow base e size v n xs) : w.drew.ownsRow base e size v n xs := h
theorem swap_world {w1 : World} {base n g cap : Nat} {e : TypeId} (l : List (Int × Bool × Int)) (k : Nat) (tx : Int) (dx : Bool) (ax ty : Int) (dy : Bool) (ay : Int) (hk : k + 1 < l.length) (h : l = l.take k ++ [(tx, dx, ax), (ty, dy, ay)] ++ l.drop (k + 2))
    (ho : w1.ownsRow base e 3 (.slice (some ⟨g, 0, none⟩) n cap) n (l.flatMap notec)) :
    ((((((w1.setCell ⟨g, k * 3, none⟩ (.int .i64 ty)).setCell ⟨g, k * 3 + 1, none⟩ (.bool dy)).setCell ⟨g, k * 3 + 2, none⟩ (.int .i64 ay)).setCell ⟨g, (k + 1) * 3, none⟩ (.int .i64 tx)).setCell ⟨g, (k + 1) * 3 + 1, none⟩ (.bool dx)).setCell ⟨g, (k + 1) * 3 + 2, none⟩ (.int .i64 ax)).drew.ownsRow base e 3 (.slice (some ⟨g, 0, none⟩) n cap) n ((l.take k ++ [(ty, dy, ay), (tx, dx, ax)] ++ l.drop (k + 2)).flatMap notec) ∧
      ∀ (B : Nat) (w0 : World), B ≤ g → Below B w0 w1 → Below B w0 ((((((w1.setCell ⟨g, k * 3, none⟩ (.int .i64 ty)).setCell ⟨g, k * 3 + 1, none⟩ (.bool dy)).setCell ⟨g, k * 3 + 2, none⟩ (.int .i64 ay)).setCell ⟨g, (k + 1) * 3, none⟩ (.int .i64 tx)).setCell ⟨g, (k + 1) * 3 + 1, none⟩ (.bool dx)).setCell ⟨g, (k + 1) * 3 + 2, none⟩ (.int .i64 ax)).drew := by
  have s1 := (ho.stored (k * 3) (.int .i64 ty)).1
  have s2 := (s1.stored (k * 3 + 1) (.bool dy)).1
  have s3 := (s2.stored (k * 3 + 2) (.int .i64 ay)).1
  have s4 := (s3.stored ((k + 1) * 3) (.int .i64 tx)).1
  have s5 := (s4.stored ((k + 1) * 3 + 1) (.bool dx)).1
  have s6 := (s5.stored ((k + 1) * 3 + 2) (.int .i64 ax)).1
  rw [swap_cells l k tx dx ax ty dy ay hk h] at s6
  refine ⟨own_drew s6, fun B w0 hB hb => ?_⟩
  exact ((((((hb.setCell (by exact hB) _).setCell (by exact hB) _).setCell (by exact hB) _).setCell (by exact hB) _).setCell (by exact hB) _).setCell (by exact hB) _).drew
theorem notec_one : ∀ l : List (Int × Bool × Int), ∀ u ∈ l.flatMap notec, u.oneCell' = true := by
  intro l u hu
  obtain ⟨x, _, hx⟩ := List.mem_flatMap.1 hu
  simp [notec] at hx
  rcases hx with rfl | rfl | rfl <;> rfl

theorem noDrew {a b : World} (h : Below a.drew.heap.size a.drew b) : Below a.heap.size a b := (Below.refl _ _).drew.trans h

set_option maxHeartbeats 1000000 in
set_option maxRecDepth 100000 in
theorem comm_any (A : Option Addr) (n cap : Nat) (i at_ : Int) (l : List (Int × Bool × Int)) (w : World) (hn : l.length = n) (h2 : 2 ≤ n) (h100 : n ≤ 100) (hwf : ∀ x ∈ l, (Lit.int .i64 x.1).wf = true ∧ (Lit.int .i64 x.2.2).wf = true)
    (wa : (Lit.int .i64 at_).wf = true) (i0 : 0 ≤ i) (i1 : i ≤ 255) (hr : Rd w w.heap.size 3 A n (l.flatMap notec)) :
    Calls Try.prog 8 #[.slice A n cap, .int .u8 i, .int .i64 at_] w fun e w' => e = .returned (.bool true) ∧ Below w.heap.size w w' := by
  obtain ⟨j0, hj0, jz0, jz1, jz2⟩ := info_parts info_note
  have Wa := hide wa
  have Hn := hide hn
  have Hwf := hide hwf
  clear wa hn hwf
  go_enter Try.func8, Try.ntmps8
  go_wp2_with fail
  refine (awake52_any _).mono ?_
  rintro e w0 ⟨rfl, hb0⟩
  have hz0 := hb0.size
  have hk0 : 0 ≤ i % ((n : Int) - 1) := Int.emod_nonneg _ (by omega)
  have hk1 : i % ((n : Int) - 1) < (n : Int) - 1 := Int.emod_lt_of_pos _ (by omega)
  obtain ⟨k, hk⟩ : ∃ k : Nat, i % ((n : Int) - 1) = k := ⟨(i % ((n : Int) - 1)).toNat, by omega⟩
  rw [hk] at hk0 hk1
  have hk1' : (k : Int) + 1 < (n : Int) := by omega
  have hkl : k + 1 < l.length := by rw [Hn.out]; omega
  have hzk : l[k]? = some (l[k]'(by omega)) := List.getElem?_eq_getElem (by omega)
  have hzk1 : l[k + 1]? = some (l[k + 1]'(by omega)) := List.getElem?_eq_getElem (by omega)
  obtain ⟨b, off, hA, hbW, hcA⟩ := hr.elem (fun _ => rfl) (show k < n by omega) hzk
  obtain ⟨b', off', hA', _, hcB⟩ := hr.elem (fun _ => rfl) (show k + 1 < n by omega) hzk1
  rw [hA] at hA'
  injection hA' with hA'
  injection hA' with e1 e2
  subst e1 e2 hA
  have Hsp := hide (split2 l k hkl)
  generalize (l[k]'(by omega)) = x at hcA hzk Hsp
  generalize (l[k + 1]'(by omega)) = y at hcB hzk1 Hsp
  obtain ⟨tx, dx, ax⟩ := x
  obtain ⟨ty, dy, ay⟩ := y
  have hx0 : w0.cell? ⟨b, off + k * 3, none⟩ = some (.int .i64 tx) := (hb0.cell (p := ⟨b, off + k * 3, none⟩) hbW).trans (hcA 0 _ rfl)
  have hx1 : w0.cell? ⟨b, off + k * 3 + 1, none⟩ = some (.bool dx) := (hb0.cell (p := ⟨b, off + k * 3 + 1, none⟩) hbW).trans (hcA 1 _ rfl)
  have hx2 : w0.cell? ⟨b, off + k * 3 + 2, none⟩ = some (.int .i64 ax) := (hb0.cell (p := ⟨b, off + k * 3 + 2, none⟩) hbW).trans (hcA 2 _ rfl)
  have hy0 : w0.cell? ⟨b, off + (k + 1) * 3, none⟩ = some (.int .i64 ty) := (hb0.cell (p := ⟨b, off + (k + 1) * 3, none⟩) hbW).trans (hcB 0 _ rfl)
  have hy1 : w0.cell? ⟨b, off + (k + 1) * 3 + 1, none⟩ = some (.bool dy) := (hb0.cell (p := ⟨b, off + (k + 1) * 3 + 1, none⟩) hbW).trans (hcB 1 _ rfl)
  have hy2 : w0.cell? ⟨b, off + (k + 1) * 3 + 2, none⟩ = some (.int .i64 ay) := (hb0.cell (p := ⟨b, off + (k + 1) * 3 + 2, none⟩) hbW).trans (hcB 2 _ rfl)
  have HK := hide hzk
  have HK1 := hide hzk1
  clear hcA hcB hzk hzk1
  go_wp2_with fail
  rw [hk]
  have Hk := hide hk
  clear hk
  by_cases hxy : tx = ty
  · subst hxy
    go_quiet (fail)
    go_wp2
    go_ret
    exact ⟨rfl, (by repeat' (first | with_reducible exact Below.refl _ _ | with_reducible assumption | with_reducible refine Below.alloc ?_ ?_ _ | with_reducible refine Below.setCell ?_ ?_ _ | with_reducible refine Below.drew ?_ | with_reducible refine below_drewN ?_ _ | with_reducible refine Below.trans ?_ (Below.mono (by with_reducible assumption) ?_) | omega | (simp <;> omega)))⟩
  · have hne : (tx == ty) = false := by simpa using hxy
    have Hxy := hide hxy
    clear hxy
    go_quiet (fail)
    have hln : (l.flatMap notec).length = n * 3 := hr.1
    have hld := hide hln
    clear hln
    go_wp2_with (at_builtin; refine wpList_append_own _ rfl _ _ 43 rfl w0.heap.size 61 j0 _ 3 24 Try.underlying43 hj0 jz0 jz1 jz2 rfl (by decide) (.slice (some ⟨w0.heap.size, 0, none⟩) 0 0) 0 [] rfl (World.ownsRow_made (w0.drewN nq) #[] 0 (Nat.le_refl _) (Nat.zero_le _) rfl) ⟨b, off, none⟩ n cap (l.flatMap notec) rfl hld.out ?o2 ?o3 ?o4 ?o5 ?o6 ?_)
    case o2 =>
      intro j u hj
      obtain ⟨b2, off2, e2, _, hc⟩ := hr.at_ (show 0 < n by omega)
      injection e2 with e2
      injection e2 with e3 e4
      subst e3 e4
      rw [Go.WideShapes.add_plain]
      rw [World.cell?_alloc_lt _ _ _ (by exact Nat.lt_of_lt_of_le hbW hz0)]
      exact (hb0.cell (p := ⟨b, off + j, none⟩) hbW).trans (hc j u hj)
    case o3 => exact notec_one l
    case o4 => unfold maxLen; omega
    case o5 => omega
    case o6 => simp
    intro v' w1 hown' hg1 _
    have hb1 : Below w0.heap.size (w0.drewN nq) w1 := ((Below.refl _ _).alloc (Nat.le_refl _) _).grown hg1 (by simp) (fun q hq => by simp [Value.ownBlock] at hq; subst hq; exact Nat.le_refl _)
    obtain ⟨g, cap', rfl, hg, hglt⟩ := own_form hown' (show 0 < n by omega)
    have hcl := own_cells hown' (g := g) rfl
    have hfz : ∀ o, w1.frozen? ⟨g, o, none⟩ = false := fun o => hown'.frozenAt o
    have gx0 : w1.cell? ⟨g, k * 3, none⟩ = some (.int .i64 tx) := hcl _ _ ((told_at (size := 3) (g := notec) (fun _ => rfl) l k _ HK.out 0 (by decide)).trans rfl)
    have gx1 : w1.cell? ⟨g, k * 3 + 1, none⟩ = some (.bool dx) := hcl _ _ ((told_at (size := 3) (g := notec) (fun _ => rfl) l k _ HK.out 1 (by decide)).trans rfl)
    have gx2 : w1.cell? ⟨g, k * 3 + 2, none⟩ = some (.int .i64 ax) := hcl _ _ ((told_at (size := 3) (g := notec) (fun _ => rfl) l k _ HK.out 2 (by decide)).trans rfl)
    have gy0 : w1.cell? ⟨g, (k + 1) * 3, none⟩ = some (.int .i64 ty) := hcl _ _ ((told_at (size := 3) (g := notec) (fun _ => rfl) l (k + 1) _ HK1.out 0 (by decide)).trans rfl)
    have gy1 : w1.cell? ⟨g, (k + 1) * 3 + 1, none⟩ = some (.bool dy) := hcl _ _ ((told_at (size := 3) (g := notec) (fun _ => rfl) l (k + 1) _ HK1.out 1 (by decide)).trans rfl)
    have gy2 : w1.cell? ⟨g, (k + 1) * 3 + 2, none⟩ = some (.int .i64 ay) := hcl _ _ ((told_at (size := 3) (g := notec) (fun _ => rfl) l (k + 1) _ HK1.out 2 (by decide)).trans rfl)
    have hgw : b ≠ g := by omega
    have Hown := hide hown'
    have HbW := hide hbW
    clear hcl hx0 hx1 hx2 hy0 hy1 hy2 hg1 hown' hbW
    go_wp2_with fail
    go_region
    obtain ⟨s7, hBx⟩ := swap_world l k tx dx ax ty dy ay hkl Hsp.out Hown.out
    have hB2 := hBx w0.heap.size w0 hg ((below_drewN (Below.refl _ _) nq).trans hb1)
    clear hBx
    generalize ((((((w1.setCell ⟨g, k * 3, none⟩ (.int .i64 ty)).setCell ⟨g, k * 3 + 1, none⟩ (.bool dy)).setCell ⟨g, k * 3 + 2, none⟩ (.int .i64 ay)).setCell ⟨g, (k + 1) * 3, none⟩ (.int .i64 tx)).setCell ⟨g, (k + 1) * 3 + 1, none⟩ (.bool dx)).setCell ⟨g, (k + 1) * 3 + 2, none⟩ (.int .i64 ax)).drew = w2 at s7 hB2 ⊢
    have hz2 : w0.heap.size ≤ w2.heap.size := hB2.size
    obtain ⟨A2, cap2, e2, hr2⟩ := Rd.of_own s7
    injection e2 with e3 e4 e5
    subst e3 e5
    have Hsw := hide (nfold_swap 4 (l.take k) (l.drop (k + 2)) (tx, dx, ax) (ty, dy, ay) Hxy.out)
    have hlen2 : (l.take k ++ [(ty, dy, ay), (tx, dx, ax)] ++ l.drop (k + 2)).length = n := by
      have := congrArg List.length Hsp.out
      simp only [List.length_append, List.length_cons, List.length_nil] at this ⊢
      rw [Hn.out] at this
      omega
    have hwf2 : ∀ z ∈ (l.take k ++ [(ty, dy, ay), (tx, dx, ax)] ++ l.drop (k + 2)), (Lit.int .i64 z.1).wf = true ∧ (Lit.int .i64 z.2.2).wf = true := by
      intro z hz
      refine Hwf.out z ?_
      rw [Hsp.out]
      simp only [List.mem_append, List.mem_cons, List.not_mem_nil, or_false] at hz ⊢
      rcases hz with (h | h | h) | h
      · exact .inl (.inl h)
      · exact .inl (.inr (.inr h))
      · exact .inl (.inr (.inl h))
      · exact .inr h
    have hF : nfold 4 l = nfold 4 (l.take k ++ [(ty, dy, ay), (tx, dx, ax)] ++ l.drop (k + 2)) := by
      rw [← Hsw.out]
      exact congrArg (nfold 4) Hsp.out
    generalize l.take k ++ [(ty, dy, ay), (tx, dx, ax)] ++ l.drop (k + 2) = l2 at hr2 hlen2 hwf2 hF
    have Hn2 := hide hlen2
    have Hwf2 := hide hwf2
    have HFF := hide hF
    clear s7 hlen2 hwf2 hF gx0 gx1 gx2 gy0 gy1 gy2 hfz hb1 Hown hg hglt hgw Hsp HK HK1 Hsw hld hne Hxy
    go_wp2_with fail
    refine (noted_ok 4 (some ⟨b, off, none⟩) n cap l w.heap.size _ (by omega) (by omega) Hn.out (by omega) Hwf.out (by omega) (hr.below (by repeat' (first | with_reducible exact Below.refl _ _ | with_reducible assumption | with_reducible refine Below.alloc ?_ ?_ _ | with_reducible refine Below.setCell ?_ ?_ _ | with_reducible refine Below.drew ?_ | with_reducible refine below_drewN ?_ _ | with_reducible refine Below.trans ?_ (Below.mono (by with_reducible assumption) ?_) | omega | (simp <;> omega))))).mono ?_
    rintro e w3 ⟨v1, v2, rfl, hadv, hb3⟩
    have hz3 := hb3.size
    have hB3 : Below w.heap.size w w3 := (hb0.trans (hB2.mono hz0)).trans (hb3.mono (by omega))
    go_wp2_with fail
    refine (noted_ok 4 (some ⟨g, 0, none⟩) n cap' l2 w2.heap.size _ (by omega) (by omega) Hn2.out (by omega) Hwf2.out (by simp; omega) ((hr2.below hb3).below ((Below.refl _ _).alloc hz3 _))).mono ?_
    rintro e w4 ⟨v3, v4, rfl, hadv2, hb4⟩
    obtain ⟨hc4, hf4⟩ := bcell hb4
    have hy4 : w3.heap.size < w4.heap.size := (by have h := hb4.size; (try simp at h); omega)
    rw [HFF.out] at hadv
    have hnb := (nfold_bd 4 l2).1
    generalize nfold 4 l2 = F at hadv hadv2 hnb
    have Hnb := hide (fun z => (hnb z).1)
    clear hnb HFF
    have hB4 : Below w.heap.size w w4 := hB3.trans (((Below.refl _ _).alloc hB3.size _).trans (hb4.mono (by have := hB3.size; simp; omega)))
    have hzw := hB3.size
    go_wp2_with fail
    go_loopw [13] (fun i wr => ∃ t : Int, 1 ≤ t ∧ t ≤ 5 ∧ i = .int .i64 t ∧ AdvC w3.heap.size 4 v1 v2 wr ∧ AdvC w4.heap.size 4 v3 v4 wr ∧ AdvR wr v1 v2 n F.1 F.2 ∧ AdvR wr v3 v4 n F.1 F.2 ∧ Below w.heap.size w wr)
      (fun i _ => (5 - intOf i).toNat)
    case atStart =>
      refine ⟨1, by omega, by omega, rfl, ?_, by unfold AdvC; simp, (hadv.below ?_).below ((Below.refl _ _).alloc (Nat.le_refl _) _), hadv2.below ((Below.refl _ _).alloc (Nat.le_refl _) _), hB4.alloc (by omega) _⟩
      · unfold AdvC
        refine ⟨by go_simp, by go_simp, by go_simp, by go_simp, by go_simp, by go_simp, by simp; omega⟩
      · exact ((Below.refl _ _).alloc (Nat.le_refl _) _).trans (hb4.mono (by simp))
    case round =>
      obtain ⟨t, ht1, ht2, rfl, ⟨c0, c1, c2, f0, f1, f2, hz⟩, ⟨d0, d1, d2, g0, g1, g2, hzd⟩, ha, hb, hB⟩ := hrel
      by_cases hle : t ≤ 4
      · go_wp2_with fail
        go_region_held3 (fun w' => w'.cell? ⟨w3.heap.size, 0, none⟩ = some (.int .i64 4) ∧ w'.cell? ⟨w3.heap.size, 1, none⟩ = some (.map v1) ∧ w'.cell? ⟨w3.heap.size, 2, none⟩ = some (.map v2) ∧ w'.cell? ⟨w4.heap.size, 0, none⟩ = some (.int .i64 4) ∧ w'.cell? ⟨w4.heap.size, 1, none⟩ = some (.map v3) ∧ w'.cell? ⟨w4.heap.size, 2, none⟩ = some (.map v4))
          (first | exact ⟨by go_simp, by go_simp, by go_simp, by go_simp, by go_simp, by go_simp⟩ | go_keep)
          (first
            | (go_at_call 27; refine (rest_in 4 t _ _ n F.1 F.2 _ ht1 hle (by omega) (by first | with_reducible exact ha.below (by repeat' (first | with_reducible exact Below.refl _ _ | with_reducible assumption | with_reducible refine Below.alloc ?_ ?_ _ | with_reducible refine Below.setCell ?_ ?_ _ | with_reducible refine Below.drew ?_ | with_reducible refine below_drewN ?_ _ | with_reducible refine Below.trans ?_ (Below.mono (by with_reducible assumption) ?_) | omega | (simp <;> omega))) | with_reducible exact hb.below (by repeat' (first | with_reducible exact Below.refl _ _ | with_reducible assumption | with_reducible refine Below.alloc ?_ ?_ _ | with_reducible refine Below.setCell ?_ ?_ _ | with_reducible refine Below.drew ?_ | with_reducible refine below_drewN ?_ _ | with_reducible refine Below.trans ?_ (Below.mono (by with_reducible assumption) ?_) | omega | (simp <;> omega)))) (Hnb.out t)).mono ?_; rintro e w5 ⟨rfl, hb5'⟩; have hb5 : Below _ _ w5 := (by first | with_reducible exact noDrew hb5' | exact hb5'); clear hb5'; have hs5 := hb5.size; obtain ⟨hc5, hf5⟩ := bcell hb5; have hy5 : w3.heap.size < w5.heap.size := (by have h := hb5.size; (try simp at h); omega); have hy6 : w4.heap.size < w5.heap.size := (by have h := hb5.size; (try simp at h); omega)))
        go_wp2
        have hbx : Below wr.heap.size wr w5 := (by repeat' (first | with_reducible exact Below.refl _ _ | with_reducible assumption | with_reducible refine Below.alloc ?_ ?_ _ | with_reducible refine Below.setCell ?_ ?_ _ | with_reducible refine Below.drew ?_ | with_reducible refine below_drewN ?_ _ | with_reducible refine Below.trans ?_ (Below.mono (by with_reducible assumption) ?_) | omega | (simp <;> omega)))
        exact ⟨⟨t + 1, by omega, by omega, rfl, AdvC.below ⟨c0, c1, c2, f0, f1, f2, hz⟩ hbx, AdvC.below ⟨d0, d1, d2, g0, g1, g2, hzd⟩ hbx, ha.below hbx, hb.below hbx, hB.trans (hbx.mono hB.size)⟩, by simp [intOf]; omega⟩
      · go_wp2_with fail
        go_region_held3 (fun w' => w'.cell? ⟨w3.heap.size, 0, none⟩ = some (.int .i64 4) ∧ w'.cell? ⟨w3.heap.size, 1, none⟩ = some (.map v1) ∧ w'.cell? ⟨w3.heap.size, 2, none⟩ = some (.map v2) ∧ w'.cell? ⟨w4.heap.size, 0, none⟩ = some (.int .i64 4) ∧ w'.cell? ⟨w4.heap.size, 1, none⟩ = some (.map v3) ∧ w'.cell? ⟨w4.heap.size, 2, none⟩ = some (.map v4))
          (first | exact ⟨by go_simp, by go_simp, by go_simp, by go_simp, by go_simp, by go_simp⟩ | go_keep)
          (first
            | (go_at_call 29; refine (heat_any 4 at_ _ _ n F.1 F.2 _ Wa.out (by first | with_reducible exact ha.below (by repeat' (first | with_reducible exact Below.refl _ _ | with_reducible assumption | with_reducible refine Below.alloc ?_ ?_ _ | with_reducible refine Below.setCell ?_ ?_ _ | with_reducible refine Below.drew ?_ | with_reducible refine below_drewN ?_ _ | with_reducible refine Below.trans ?_ (Below.mono (by with_reducible assumption) ?_) | omega | (simp <;> omega))) | with_reducible exact hb.below (by repeat' (first | with_reducible exact Below.refl _ _ | with_reducible assumption | with_reducible refine Below.alloc ?_ ?_ _ | with_reducible refine Below.setCell ?_ ?_ _ | with_reducible refine Below.drew ?_ | with_reducible refine below_drewN ?_ _ | with_reducible refine Below.trans ?_ (Below.mono (by with_reducible assumption) ?_) | omega | (simp <;> omega))))).mono ?_; rintro e w5 ⟨rfl, hb5'⟩; have hb5 : Below _ _ w5 := (by first | with_reducible exact noDrew hb5' | exact hb5'); clear hb5'; have hs5 := hb5.size; obtain ⟨hc5, hf5⟩ := bcell hb5; have hy5 : w3.heap.size < w5.heap.size := (by have h := hb5.size; (try simp at h); omega); have hy6 : w4.heap.size < w5.heap.size := (by have h := hb5.size; (try simp at h); omega)))
        go_wp2
        go_ret
        exact ⟨by simp, (by repeat' (first | with_reducible exact Below.refl _ _ | with_reducible assumption | with_reducible refine Below.alloc ?_ ?_ _ | with_reducible refine Below.setCell ?_ ?_ _ | with_reducible refine Below.drew ?_ | with_reducible refine below_drewN ?_ _ | with_reducible refine Below.trans ?_ (Below.mono (by with_reducible assumption) ?_) | omega | (simp <;> omega)))⟩

theorem comm_small (A : Option Addr) (n cap : Nat) (i at_ : Int) (w : World) (h : n < 2 ∨ 100 < n) (hm : n ≤ maxLen) :
    Calls Try.prog 8 #[.slice A n cap, .int .u8 i, .int .i64 at_] w fun e w' => e = .returned (.bool true) ∧ Below w.heap.size w w' := by
  unfold maxLen at hm
  rcases h with h | h
  all_goals
    go_enter Try.func8, Try.ntmps8
    go_wp2_with (go_at_call 25; refine (awake52_any _).mono ?_; rintro e w2 ⟨rfl, hb⟩)
    go_ret
    exact ⟨rfl, hb⟩

theorem own : ownKnob Try.prog.godebug = none := by kernel_rfl

set_option maxRecDepth 100000 in
theorem walk : LawWalk Try.prog 8 #[43, 5, 44] := by
  intro H enc W base args ds p hval hA hlt
  obtain ⟨v0, v1, v2, d0, d1, d2, p0, p1, p2, rfl, rfl, rfl, h0, h1, h2⟩ := trodAll_three hA
  obtain ⟨i, rfl, rfl, rfl, wi⟩ := open_int Try.underlying5 (hval 1 5 v1 rfl rfl) h1
  obtain ⟨at_, rfl, rfl, rfl, wa⟩ := open_int Try.underlying44 (hval 2 44 v2 rfl rfl) h2
  obtain ⟨A, n, cap, l, rfl, hm, hl, hr, hwf⟩ := rd_notes (hval 0 43 v0 rfl rfl) h0
  obtain ⟨i0, i1⟩ := bounds_u8 wi
  by_cases h : 2 ≤ n ∧ n ≤ 100
  · exact comm_any A n cap i at_ l W hl h.1 h.2 hwf wa i0 i1 hr
  · exact comm_small A n cap i at_ W (by omega) hm

set_option maxRecDepth 100000 in
theorem lifted (os : Os) (started : os.Started) (H : Type) (enc : TypeId × Value → H) :
    ReturnsInHanded {} Try.checked os 8 .any (Rows.adviseCommutesSpec.pre6 enc Try.prog Try.f8 Rows.adviseCommutesRow.domain false) (Rows.adviseCommutesSpec.post enc Try.prog Try.f8 false true false false) :=
  law_lifted (C := Try.checked) started own (by kernel_rfl) (by kernel_rfl) Try.func8 (by kernel_rfl) Try.underlying4 (by kernel_rfl)
    ⟨rfl, fun H ds h => by match ds, h with | [d1, d2, d3], _ => exact ⟨rfl, rfl, rfl⟩⟩
    (ChangeSpec.witness6 (enc := enc) (C := Try.checked) false ⟨#[], #[.slice none 0 0, .int .u8 0, .int .i64 0], []⟩ 8 (by kernel_rfl) (by kernel_rfl) (by kernel_rfl) (by kernel_rfl)) (by rw [Try.params8]; exact walk)

theorem over : Rows.adviseCommutesRow.holds Try.pinned (OpenSpec.ofChange Rows.adviseCommutesSpec) :=
  OpenClaim.holds_of_wide 8 Try.f8 rfl rfl rfl rfl rfl rfl rfl ⟨rfl, rfl, rfl, rfl, rfl⟩ rfl rfl rfl rfl rfl (by kernel_rfl) Try.func8 (by kernel_rfl)
    (of_decide_eq_true (by kernel_rfl)) (by unfold Func.isWrapper; first | (rw [if_pos (by decide +kernel)]; kernel_rfl) | (rw [if_neg (by decide +kernel)]; exact ⟨rfl, rfl⟩))
    (fun os started H enc _ => lifted os started H enc)

theorem proved : Rows.AdviseCommutesSaid := over
end Go.Proofs.Ytmpbaanlagmacaa.lawComm
