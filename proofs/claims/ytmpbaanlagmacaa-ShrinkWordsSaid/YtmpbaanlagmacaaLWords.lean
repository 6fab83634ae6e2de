/- ShrinkWords: if the predicate looks for a subsequence, exactly that subsequence remains, after one pass and one pass that removes nothing. No condition. -/
import Derived.Test.YtmpbaanlagmacaaRows
import Derived.Test.YtmpbaanlagmacaaFr
import Derived.Test.YtmpbaanlagmacaaS12
import Derived.Test.YtmpbaanlagmacaaAp
namespace Go.Proofs.Ytmpbaanlagmacaa.lawWords
open Go.ChangeShapes Go.WideShapes Go.ChangeAt Go.RowKit

/-- A pick's box. -/
def PkC (b : Nat) (x : Pk) (w : World) : Prop := w.cell? ⟨b, 0, none⟩ = some (.int .i64 x.1) ∧ w.cell? ⟨b, 1, none⟩ = some (.int .i64 x.2.1) ∧ w.cell? ⟨b, 2, none⟩ = some (.int .i64 x.2.2)

/-- What lies behind a reslicing from k on. -/
theorem Rd.from {w : World} {B n cap k : Nat} {A : Option Addr} {l : List Pk} (h : Rd w B 3 A n (l.flatMap pkc)) (hk : k ≤ n) (hc : n ≤ cap) :
    Rd w B 3 (if cap = k then A else A.map (·.add (k * 3))) (n - k) ((l.drop k).flatMap pkc) := by
  have hl : l.length = n := by have := h.1; rw [pkc_flat] at this; omega
  refine ⟨by rw [pkc_flat, List.length_drop, hl], fun h0 => ?_⟩
  obtain ⟨b, off, rfl, hb, hcA⟩ := h.2 (by omega)
  refine ⟨b, off + k * 3, by rw [if_neg (by omega)]; simp [Addr.add], hb, fun j u hu => ?_⟩
  rw [Nat.add_assoc]
  refine hcA _ u ?_
  have hf : l.flatMap pkc = (l.take k).flatMap pkc ++ (l.drop k).flatMap pkc := by rw [← List.flatMap_append, List.take_append_drop]
  have hL : ((l.take k).flatMap pkc).length = k * 3 := by rw [pkc_flat, List.length_take, hl, Nat.min_eq_left hk]
  rw [hf, List.getElem?_append_right (by omega), hL, Nat.add_sub_cancel_left]
  exact hu
/-- A literal of one pick. -/
theorem rd_one {w : World} {b B : Nat} {x : Pk} (h : PkC b x w) (hb : b < B) : Rd w B 3 (some ⟨b, 0, none⟩) 1 (pkc x) := by
  obtain ⟨h0, h1, h2⟩ := h
  refine ⟨rfl, fun _ => ⟨b, 0, rfl, hb, fun j u hu => ?_⟩⟩
  rw [Nat.zero_add]
  match j, hu with
  | 0, hu => injection hu with hu; subst hu; exact h0
  | 1, hu => injection hu with hu; subst hu; exact h1
  | 2, hu => injection hu with hu; subst hu; exact h2
  | j + 3, hu => cases hu
theorem sub_snoc {x : List Pk} {want : List Pk} {i : Nat} (p : Pk) (h : (want.take i).Sublist x) (hp : want[i]? = some p) : (want.take (i + 1)).Sublist (x ++ [p]) := by
  rw [take_snoc want i p hp]
  exact h.append (List.Sublist.refl _)

set_option maxHeartbeats 2000000 in
set_option maxRecDepth 100000 in
theorem words_small (A1 A2 A3 : Option Addr) (n1 n2 n3 c1 c2 c3 : Nat) (want btw : List Pk) (zs : List Int) (W : World) (hn1 : want.length = n1) (hn2 : btw.length = n2) (hn3 : zs.length = n3) (hc1 : n1 ≤ c1) (hc2 : n2 ≤ c2) (hb1 : n1 ≤ 12) (hb2 : n2 ≤ 20) (hb3 : n3 ≤ 40)
    (hwf : ∀ z ∈ zs, (Lit.int .u8 z).wf = true) (hr1 : Rd W W.heap.size 3 A1 n1 (want.flatMap pkc)) (hr2 : Rd W W.heap.size 3 A2 n2 (btw.flatMap pkc)) (hr3 : Rd W W.heap.size 1 A3 n3 (zs.map (Value.int .u8))) :
    Calls Try.prog 12 #[.slice A1 n1 c1, .slice A2 n2 c2, .slice A3 n3 c3] W fun e w' => e = .returned (.bool true) ∧ Below W.heap.size W w' := by
  obtain ⟨i0, hi, iz0, iz1, iz2⟩ := info_parts info_pickA
  have Hn1 := hide hn1
  have Hn2 := hide hn2
  have Hn3 := hide hn3
  have Hwf := hide hwf
  clear hn1 hn2 hn3 hwf
  go_enter Try.func12, Try.ntmps12
  go_wp2_with fail
  go_loopw [7, 8, 29] (fun v kk t wr => ∃ (i k : Nat) (x : List Pk), t = .int .i64 i ∧ kk = .int .i64 k ∧ i ≤ n1 ∧ k ≤ n2 ∧ Hid (x.length = i + k) ∧ (want.take i).Sublist x ∧ wr.ownsRow W.heap.size 82 3 v (i + k) (x.flatMap pkc) ∧ Below W.heap.size W wr)
    (fun _ _ t _ => n1 - (intOf t).toNat)
  case atStart => exact ⟨0, 0, [], rfl, rfl, by omega, by omega, rfl, List.Sublist.refl _, World.ownsRow_nil _ _ _ _, Below.refl _ _⟩
  case round =>
    obtain ⟨i, k, x, rfl, rfl, hin, hkn, hx, hsub, hown, hB⟩ := hrel
    obtain ⟨wo, rfl⟩ : ∃ wo : World, wo = wr := ⟨_, rfl⟩
    have hzo := hB.size
    by_cases hlt : i < n1
    · have hz1 : want[i]? = some (want[i]'(by rw [Hn1.out]; omega)) := List.getElem?_eq_getElem _
      obtain ⟨b, off, rfl, hbb, hcA⟩ := hr1.elem pkc_len hlt hz1
      generalize (want[i]'(by rw [Hn1.out]; omega)) = p at hcA hz1
      obtain ⟨x0, x1, x2⟩ := p
      have g0 : wo.cell? ⟨b, off + i * 3, none⟩ = some (.int .i64 x0) := (hB.cell (p := ⟨b, off + i * 3, none⟩) hbb).trans (hcA 0 _ rfl)
      have g1 : wo.cell? ⟨b, off + i * 3 + 1, none⟩ = some (.int .i64 x1) := (hB.cell (p := ⟨b, off + i * 3 + 1, none⟩) hbb).trans (hcA 1 _ rfl)
      have g2 : wo.cell? ⟨b, off + i * 3 + 2, none⟩ = some (.int .i64 x2) := (hB.cell (p := ⟨b, off + i * 3 + 2, none⟩) hbb).trans (hcA 2 _ rfl)
      have Hz1 := hide hz1
      obtain ⟨Ao, co, rfl, hco, hblk⟩ := own_slice hown
      have hlo := hown.lt
      have hne : Value.ownBlock (.slice Ao (i + k) co) ≠ some wo.heap.size := fun he => by have := hlo _ he; omega
      have Hne := hide hne
      clear hz1 hcA hblk hlo hne
      by_cases hgi : i < n3
      · have hz3 : zs[i]? = some (zs[i]'(by rw [Hn3.out]; omega)) := List.getElem?_eq_getElem _
        have hzw := Hwf.out _ (List.mem_of_getElem? hz3)
        obtain ⟨b3, off3, rfl, hbb3, hcA3⟩ := hr3.at_ hgi
        generalize (zs[i]'(by rw [Hn3.out]; omega)) = g at hz3 hzw
        obtain ⟨z0, z1⟩ := bounds_u8 hzw
        have f0 : wo.cell? ⟨b3, off3 + i, none⟩ = some (.int .u8 g) := (hB.cell (p := ⟨b3, off3 + i, none⟩) hbb3).trans (hcA3 i _ (by rw [List.getElem?_map, hz3]; rfl))
        have hb3w : b3 < wo.heap.size := by omega
        have hbw : b < wo.heap.size := by omega
        have eg : IntKind.i64.wrap (g % 4) = g % 4 := IntWalk.i64_in _ (by omega)
        have eg0 : 0 ≤ g % 4 := by omega
        have eg1 : g % 4 ≤ 3 := by omega
        have hii : (i : Int) < (n3 : Int) := by omega
        have hij : (0 : Int) ≤ (i : Int) := by omega
        have hik : (i : Int) < (n1 : Int) := by omega
        clear hzw hz3 hcA3
        go_wp2_with fail
        have hown0 : (wo.alloc (.cells #[.int .i64 x0, .int .i64 x1, .int .i64 x2] 82)).ownsRow W.heap.size 82 3 (.slice Ao (i + k) co) (i + k) (x.flatMap pkc) := own_below hown ((Below.refl _ _).alloc (Nat.le_refl _) _)
        have hB0 : Below W.heap.size W (wo.alloc (.cells #[.int .i64 x0, .int .i64 x1, .int .i64 x2] 82)) := hB.alloc hzo _
        go_loopw [7, 8, 44] (fun v kk t wr => ∃ (q k' : Nat) (y : List Pk), t = .int .i64 q ∧ kk = .int .i64 k' ∧ (q : Int) ≤ g % 4 ∧ k' ≤ n2 ∧ Hid (y.length = i + k') ∧ (want.take i).Sublist y ∧ wr.ownsRow W.heap.size 82 3 v (i + k') (y.flatMap pkc) ∧ Hid (v.ownBlock ≠ some wo.heap.size) ∧ PkC wo.heap.size (x0, x1, x2) wr ∧ Below W.heap.size W wr)
          (fun _ _ t _ => (g % 4 - intOf t).toNat)
        case atStart => exact ⟨0, k, x, rfl, rfl, by omega, hkn, hx, hsub, hown0, Hne, ⟨by go_simp, by go_simp, by go_simp⟩, hB0⟩
        case round =>
          obtain ⟨q, k', y, rfl, rfl, hq, hkn', Hy, hsub', hown', Hne', hP, hB'⟩ := hrel
          clear hown hown0 hsub hB0 hx hB
          have hsub := hsub'
          have hzr := hB'.size
          have hPb : wo.heap.size < wr.heap.size := cell_lt hP.1
          obtain ⟨Ao', co', rfl, hco', _⟩ := own_slice hown'
          by_cases hqg : (q : Int) < g % 4
          · by_cases hkk : k' < n2
            · have hz2 : btw[k']? = some (btw[k']'(by rw [Hn2.out]; omega)) := List.getElem?_eq_getElem _
              obtain ⟨b4, off4, rfl, hbb4, hcA4⟩ := hr2.elem pkc_len hkk hz2
              generalize (btw[k']'(by rw [Hn2.out]; omega)) = p4 at hcA4 hz2
              obtain ⟨y0, y1, y2⟩ := p4
              have e0 : wr.cell? ⟨b4, off4 + k' * 3, none⟩ = some (.int .i64 y0) := (hB'.cell (p := ⟨b4, off4 + k' * 3, none⟩) hbb4).trans (hcA4 0 _ rfl)
              have e1 : wr.cell? ⟨b4, off4 + k' * 3 + 1, none⟩ = some (.int .i64 y1) := (hB'.cell (p := ⟨b4, off4 + k' * 3 + 1, none⟩) hbb4).trans (hcA4 1 _ rfl)
              have e2 : wr.cell? ⟨b4, off4 + k' * 3 + 2, none⟩ = some (.int .i64 y2) := (hB'.cell (p := ⟨b4, off4 + k' * 3 + 2, none⟩) hbb4).trans (hcA4 2 _ rfl)
              have hb4w : b4 < wr.heap.size := by omega
              have hki : (0 : Int) ≤ (k' : Int) := by omega
              have hkj : (k' : Int) < (n2 : Int) := by omega
              have HP := hide hP
              clear hcA4 hz2 hP
              go_wp2_with (at_builtin; (refine wpList_append_rd2 rfl _ _ 63 rfl W.heap.size 82 i0 _ 3 24 Try.underlying63 hi iz0 iz1 iz2 rfl (by decide) (.slice Ao' (i + k') co') (i + k') _ rfl (own_below hown' (by exact (Below.refl _ _).alloc (Nat.le_refl _) _)) (some ⟨wr.heap.size, 0, none⟩) 1 1 (pkc (y0, y1, y2)) rfl (wr.heap.size + 1) (rd_one ⟨by go_simp, by go_simp, by go_simp⟩ (by simp)) (pkc_one _) ?o1 ?o2 (by first | omega | (simp; done) | (simp; omega)) W.heap.size W (hB'.alloc hzr _) (Nat.le_refl _) ?_))
              case o1 => unfold maxLen; omega
              case o2 => omega
              intro v2 w2 hown2 hb2 hz2 hoth2
              have hown3 : w2.ownsRow W.heap.size 82 3 v2 (i + (k' + 1)) ((y ++ [(y0, y1, y2)]).flatMap pkc) := by rw [flat_snoc, show i + (k' + 1) = i + k' + 1 by omega]; exact hown2
              obtain ⟨hn5, hh5⟩ := hoth2.out wo.heap.size (by first | omega | (simp; done) | (simp; omega)) Hne'.out
              have hc5 : ∀ o, w2.cell? ⟨wo.heap.size, o, none⟩ = wr.cell? ⟨wo.heap.size, o, none⟩ := fun o => (World.cell?_of_block hh5).trans (World.cell?_alloc_lt _ _ _ hPb)
              have Hn5 := hide hn5
              have hP5 : PkC wo.heap.size (x0, x1, x2) w2 := ⟨(hc5 0).trans HP.out.1, (hc5 1).trans HP.out.2.1, (hc5 2).trans HP.out.2.2⟩
              clear hown2 hn5 hh5 hc5
              go_wp2_with fail
              exact ⟨⟨q + 1, k' + 1, y ++ [(y0, y1, y2)], by go_num, by go_num, by omega, by omega, hide (by rw [List.length_append, Hy.out]; simp; omega), hsub.trans (List.sublist_append_left _ _), hown3, Hn5, hP5, hb2⟩, by simp [intOf]; omega⟩
            · have hkd : ¬ ((k' : Int) < (n2 : Int)) := by omega
              go_wp2_with fail
              exact ⟨⟨q + 1, k', y, by go_num, rfl, by omega, by omega, Hy, hsub, hown', Hne', hP, hB'⟩, by simp [intOf]; omega⟩
          · obtain ⟨p0, p1, p2⟩ := hP
            go_wp2_with (at_builtin; (refine wpList_append_rd2 rfl _ _ 63 rfl W.heap.size 82 i0 _ 3 24 Try.underlying63 hi iz0 iz1 iz2 rfl (by decide) (.slice Ao' (i + k') co') (i + k') _ rfl (own_below hown' (by exact (Below.refl _ _).alloc (Nat.le_refl _) _)) (some ⟨wr.heap.size, 0, none⟩) 1 1 (pkc (x0, x1, x2)) rfl (wr.heap.size + 1) (rd_one ⟨by go_simp, by go_simp, by go_simp⟩ (by simp)) (pkc_one _) ?o1 ?o2 (by first | omega | (simp; done) | (simp; omega)) W.heap.size W (hB'.alloc hB'.size _) (Nat.le_refl _) ?_))
            case o1 => unfold maxLen; omega
            case o2 => omega
            intro v2 w2 hown2 hb2 hz2 hoth2
            have hown3 : w2.ownsRow W.heap.size 82 3 v2 (i + 1 + k') ((y ++ [(x0, x1, x2)]).flatMap pkc) := by rw [flat_snoc, show i + 1 + k' = i + k' + 1 by omega]; exact hown2
            clear hown2
            go_wp2_with fail
            exact ⟨⟨i + 1, k', y ++ [(x0, x1, x2)], by go_num, rfl, by omega, by omega, hide (by rw [List.length_append, Hy.out]; simp; omega), sub_snoc _ hsub Hz1.out, hown3, hb2⟩, by simp [intOf]; omega⟩
      · have hgd : ¬ ((i : Int) < (n3 : Int)) := by omega
        have hbw : b < wo.heap.size := by omega
        have hik : (i : Int) < (n1 : Int) := by omega
        have hij : (0 : Int) ≤ (i : Int) := by omega
        have Hy := hx
        have hown1 : (wo.alloc (.cells #[.int .i64 x0, .int .i64 x1, .int .i64 x2] 82)).ownsRow W.heap.size 82 3 (.slice Ao (i + k) co) (i + k) (x.flatMap pkc) := own_below hown ((Below.refl _ _).alloc (Nat.le_refl _) _)
        have hB1 : Below W.heap.size W (wo.alloc (.cells #[.int .i64 x0, .int .i64 x1, .int .i64 x2] 82)) := hB.alloc hzo _
        clear hown hx
        go_wp2_with (at_builtin; (refine wpList_append_rd2 rfl _ _ 63 rfl W.heap.size 82 i0 _ 3 24 Try.underlying63 hi iz0 iz1 iz2 rfl (by decide) (.slice Ao (i + k) co) (i + k) _ rfl (own_below hown1 (by exact (Below.refl _ _).alloc (Nat.le_refl _) _)) (some ⟨wo.heap.size + 1, 0, none⟩) 1 1 (pkc (x0, x1, x2)) rfl (wo.heap.size + 1 + 1) (rd_one ⟨by go_simp, by go_simp, by go_simp⟩ (by simp)) (pkc_one _) ?o1 ?o2 (by first | omega | (simp; done) | (simp; omega)) W.heap.size W (hB1.alloc hB1.size _) (Nat.le_refl _) ?_))
        case o1 => unfold maxLen; omega
        case o2 => omega
        intro v2 w2 hown2 hb2 hz2 hoth2
        have hown3 : w2.ownsRow W.heap.size 82 3 v2 (i + 1 + k) ((x ++ [(x0, x1, x2)]).flatMap pkc) := by rw [flat_snoc, show i + 1 + k = i + k + 1 by omega]; exact hown2
        clear hown2
        go_wp2_with fail
        exact ⟨⟨i + 1, k, x ++ [(x0, x1, x2)], by go_num, rfl, by omega, by omega, hide (by rw [List.length_append, Hy.out]; simp; omega), sub_snoc _ hsub Hz1.out, hown3, hb2⟩, by simp [intOf]; omega⟩
    · obtain rfl : i = n1 := by omega
      obtain ⟨Ao, co, rfl, hco, _⟩ := own_slice hown
      have hwx : want.Sublist x := by
        rw [List.take_of_length_le (by rw [Hn1.out]; exact Nat.le_refl _)] at hsub
        exact hsub
      obtain ⟨z, hz⟩ : ∃ z, z = x ++ btw.drop k := ⟨_, rfl⟩
      have hzl : z.length = i + n2 := by rw [hz, List.length_append, hx.out, List.length_drop, Hn2.out]; omega
      have hwz : want.Sublist z := by rw [hz]; exact hwx.trans (List.sublist_append_left _ _)
      have Hz := hide hz
      have Hzl := hide hzl
      have hL := least_words 0 want z hwz
      have hP := (badP_sub 0 want z).2 hwz
      have hM := (leastP_mono _ (mono_sub 0 want) z hP).1
      rw [hL, Hzl.out, Hn1.out] at hM
      have HL := hide hL
      have HM := hide hM
      clear hz hzl hwx hwz hL hP hM hsub
      have hki : (0 : Int) ≤ (k : Int) := by omega
      have hkj : (k : Int) ≤ (n2 : Int) := by omega
      have hni : ¬ ((i : Int) < (i : Int)) := by omega
      obtain ⟨A6, hA6⟩ : ∃ A6, A6 = if c2 = k then A2 else A2.map (·.add (k * 3)) := ⟨_, rfl⟩
      have hr6 := Rd.from (hr2.below hB) hkn hc2
      rw [← hA6] at hr6
      have hsl : ∀ w, (Instr.slice 63 (.slice A2 n2 c2) (some (.int .i64 (k : Int))) none none).run Try.prog w = .ok (.slice A6 (n2 - k) (c2 - k)) w := fun w => by
        rw [hA6, run_slice_l w 63 A2 n2 c2 Try.underlying63 .i64 k hki hkj]
        rfl
      clear hA6
      go_wp2_with (at_builtin; (refine wpList_append_rd2 rfl _ _ 63 rfl W.heap.size 82 i0 _ 3 24 Try.underlying63 hi iz0 iz1 iz2 rfl (by decide) (.slice Ao (i + k) co) (i + k) _ rfl hown _ (n2 - k) (c2 - k) _ rfl W.heap.size hr6 (pkc_ones _) ?o1 ?o2 hzo W.heap.size W hB (Nat.le_refl _) ?_))
      case o1 => unfold maxLen; omega
      case o2 => omega
      intro v2 w2 hown2 hb2' hz2 _
      rw [← List.flatMap_append, ← Hz.out, show i + k + (n2 - k) = i + n2 by omega] at hown2
      obtain ⟨A4, c4, rfl, hc4, _⟩ := own_slice hown2
      obtain ⟨_, _, e4, hr4⟩ := Rd.of_own hown2
      injection e4 with e4 _ e5
      subst e4 e5
      have hs2 := hb2'.size
      have hr1w := (hr1.below hb2').more hs2
      clear hown2 hown
      go_wp2_with fail
      refine (least_w 0 0 A1 A4 i (i + n2) c1 c4 want z w2 _ (by omega) (by omega) (by omega) (by omega) Hn1.out (by omega) Hzl.out hc4 (by omega) hr1w ((hr4.below (by repeat' (first | with_reducible exact Below.refl _ _ | with_reducible assumption | with_reducible refine Below.alloc ?_ ?_ _ | with_reducible refine Below.setCell ?_ ?_ _ | with_reducible refine Below.drew ?_ | with_reducible refine below_drewN ?_ _ | with_reducible refine Below.trans ?_ (Below.mono (by with_reducible assumption) ?_) | omega | (simp <;> omega)))).more (by first | omega | (simp; done) | (simp; omega))) (by repeat' (first | with_reducible exact Below.refl _ _ | with_reducible assumption | with_reducible refine Below.alloc ?_ ?_ _ | with_reducible refine Below.setCell ?_ ?_ _ | with_reducible refine Below.drew ?_ | with_reducible refine below_drewN ?_ _ | with_reducible refine Below.trans ?_ (Below.mono (by with_reducible assumption) ?_) | omega | (simp <;> omega)))).mono ?_
      rintro e w5 ⟨A5, n5, c5, rfl, hl5, hc5, hr5, hb5⟩
      rw [HL.out] at hl5 hr5
      obtain rfl : n5 = i := by rw [← hl5, Hn1.out]
      obtain ⟨hcc5, hff5⟩ := bcell hb5; have hs5 := hb5.size; (try simp at hs5); have hz5 : w2.heap.size < w5.heap.size := (by omega)
      go_wp2_with fail
      refine (alike_yes A5 A1 n5 n5 c5 c1 want _ _ _ hl5 hl5 (by omega) hr5 (hr1w.below (by repeat' (first | with_reducible exact Below.refl _ _ | with_reducible assumption | with_reducible refine Below.alloc ?_ ?_ _ | with_reducible refine Below.setCell ?_ ?_ _ | with_reducible refine Below.drew ?_ | with_reducible refine below_drewN ?_ _ | with_reducible refine Below.trans ?_ (Below.mono (by with_reducible assumption) ?_) | omega | (simp <;> omega))))).mono ?_
      rintro e w6 ⟨rfl, hb6⟩
      obtain ⟨hcc6, hff6⟩ := bcell hb6; have hs6 := hb6.size; (try simp at hs6); have hz6 : w2.heap.size < w6.heap.size := (by omega)
      by_cases hgt : 0 < n2
      · have hM := HM.out
        rw [if_pos (by omega)] at hM
        have HM2 := hide hM
        clear hM
        have hgi : (n5 : Int) < (n5 : Int) + (n2 : Int) := by omega
        go_wp2_with fail
        refine (steps_w 0 0 A1 A4 n5 (n5 + n2) c1 c4 want z w2 _ (by omega) (by omega) (by omega) (by omega) Hn1.out (by omega) Hzl.out hc4 (by omega) hr1w ((hr4.below (by repeat' (first | with_reducible exact Below.refl _ _ | with_reducible assumption | with_reducible refine Below.alloc ?_ ?_ _ | with_reducible refine Below.setCell ?_ ?_ _ | with_reducible refine Below.drew ?_ | with_reducible refine below_drewN ?_ _ | with_reducible refine Below.trans ?_ (Below.mono (by with_reducible assumption) ?_) | omega | (simp <;> omega)))).more (by first | omega | (simp; done) | (simp; omega))) (by repeat' (first | with_reducible exact Below.refl _ _ | with_reducible assumption | with_reducible refine Below.alloc ?_ ?_ _ | with_reducible refine Below.setCell ?_ ?_ _ | with_reducible refine Below.drew ?_ | with_reducible refine below_drewN ?_ _ | with_reducible refine Below.trans ?_ (Below.mono (by with_reducible assumption) ?_) | omega | (simp <;> omega)))).mono ?_
        rintro e w7 ⟨rfl, hb7⟩
        obtain ⟨hcc7, hff7⟩ := bcell hb7; have hs7 := hb7.size; (try simp at hs7); have hz7 : w2.heap.size < w7.heap.size := (by omega)
        rw [HM2.out]
        go_wp2_with fail
        refine (awake60_any _).mono ?_
        rintro e w8 ⟨rfl, hb8⟩
        go_wp2
        go_ret
        exact ⟨rfl, (by repeat' (first | with_reducible exact Below.refl _ _ | with_reducible assumption | with_reducible refine Below.alloc ?_ ?_ _ | with_reducible refine Below.setCell ?_ ?_ _ | with_reducible refine Below.drew ?_ | with_reducible refine below_drewN ?_ _ | with_reducible refine Below.trans ?_ (Below.mono (by with_reducible assumption) ?_) | omega | (simp <;> omega)))⟩
      · obtain rfl : n2 = 0 := by omega
        have hM := HM.out
        rw [if_neg (by omega)] at hM
        have HM2 := hide hM
        clear hM
        go_wp2_with fail
        refine (steps_w 0 0 A1 A4 n5 (n5 + 0) c1 c4 want z w2 _ (by omega) (by omega) (by omega) (by omega) Hn1.out (by omega) Hzl.out hc4 (by omega) hr1w ((hr4.below (by repeat' (first | with_reducible exact Below.refl _ _ | with_reducible assumption | with_reducible refine Below.alloc ?_ ?_ _ | with_reducible refine Below.setCell ?_ ?_ _ | with_reducible refine Below.drew ?_ | with_reducible refine below_drewN ?_ _ | with_reducible refine Below.trans ?_ (Below.mono (by with_reducible assumption) ?_) | omega | (simp <;> omega)))).more (by first | omega | (simp; done) | (simp; omega))) (by repeat' (first | with_reducible exact Below.refl _ _ | with_reducible assumption | with_reducible refine Below.alloc ?_ ?_ _ | with_reducible refine Below.setCell ?_ ?_ _ | with_reducible refine Below.drew ?_ | with_reducible refine below_drewN ?_ _ | with_reducible refine Below.trans ?_ (Below.mono (by with_reducible assumption) ?_) | omega | (simp <;> omega)))).mono ?_
        rintro e w7 ⟨rfl, hb7⟩
        obtain ⟨hcc7, hff7⟩ := bcell hb7; have hs7 := hb7.size; (try simp at hs7); have hz7 : w2.heap.size < w7.heap.size := (by omega)
        rw [HM2.out]
        go_wp2_with fail
        refine (awake60_any _).mono ?_
        rintro e w8 ⟨rfl, hb8⟩
        go_wp2
        go_ret
        exact ⟨rfl, (by repeat' (first | with_reducible exact Below.refl _ _ | with_reducible assumption | with_reducible refine Below.alloc ?_ ?_ _ | with_reducible refine Below.setCell ?_ ?_ _ | with_reducible refine Below.drew ?_ | with_reducible refine below_drewN ?_ _ | with_reducible refine Below.trans ?_ (Below.mono (by with_reducible assumption) ?_) | omega | (simp <;> omega)))⟩

theorem words_great (A1 A2 A3 : Option Addr) (n1 n2 n3 c1 c2 c3 : Nat) (W : World) (h : 12 < n1 ∨ 20 < n2 ∨ 40 < n3) :
    Calls Try.prog 12 #[.slice A1 n1 c1, .slice A2 n2 c2, .slice A3 n3 c3] W fun e w' => e = .returned (.bool true) ∧ Below W.heap.size W w' := by
  by_cases h1 : 12 < n1
  · go_enter Try.func12, Try.ntmps12
    go_wp2_with (go_at_call 34; refine (awake60_any _).mono ?_; rintro e w2 ⟨rfl, hb2⟩)
    go_ret
    exact ⟨rfl, hb2⟩
  · by_cases h2 : 20 < n2
    · go_enter Try.func12, Try.ntmps12
      go_wp2_with (go_at_call 34; refine (awake60_any _).mono ?_; rintro e w2 ⟨rfl, hb2⟩)
      go_ret
      exact ⟨rfl, hb2⟩
    · have h3 : 40 < n3 := by omega
      go_enter Try.func12, Try.ntmps12
      go_wp2_with (go_at_call 34; refine (awake60_any _).mono ?_; rintro e w2 ⟨rfl, hb2⟩)
      go_ret
      exact ⟨rfl, hb2⟩

theorem own : ownKnob Try.prog.godebug = none := by kernel_rfl

set_option maxRecDepth 100000 in
theorem walk : LawWalk Try.prog 12 #[63, 63, 41] := by
  intro H enc W base args ds p hval hA hlt
  obtain ⟨v0, v1, v2, d0, d1, d2, p0, p1, p2, rfl, rfl, rfl, h0, h1, h2⟩ := trodAll_three hA
  obtain ⟨A1, n1, c1, want, rfl, hc1, hm1, hn1, hr1⟩ := rd_picks (hval 0 63 v0 rfl rfl) h0
  obtain ⟨A2, n2, c2, btw, rfl, hc2, hm2, hn2, hr2⟩ := rd_picks (hval 1 63 v1 rfl rfl) h1
  obtain ⟨A3, n3, c3, zs, rfl, hm3, hn3, hr3, hwf⟩ := rd_ints Try.underlying41 Try.underlying5 cellsU8 (hval 2 41 v2 rfl rfl) h2
  by_cases h : n1 ≤ 12 ∧ n2 ≤ 20 ∧ n3 ≤ 40
  · exact words_small A1 A2 A3 n1 n2 n3 c1 c2 c3 want btw zs W hn1 hn2 hn3 hc1 hc2 h.1 h.2.1 h.2.2 hwf hr1 hr2 hr3
  · exact words_great A1 A2 A3 n1 n2 n3 c1 c2 c3 W (by omega)

set_option maxRecDepth 100000 in
theorem lifted (os : Os) (started : os.Started) (H : Type) (enc : TypeId × Value → H) :
    ReturnsInHanded {} Try.checked os 12 .any (Rows.shrinkWordsSpec.pre6 enc Try.prog Try.f12 Rows.shrinkWordsRow.domain false) (Rows.shrinkWordsSpec.post enc Try.prog Try.f12 false true false false) :=
  law_lifted (C := Try.checked) started own (by kernel_rfl) (by kernel_rfl) Try.func12 (by kernel_rfl) Try.underlying4 (by kernel_rfl)
    ⟨rfl, fun H ds h => by match ds, h with | [d1, d2, d3], _ => exact ⟨rfl, rfl, rfl⟩⟩
    (ChangeSpec.witness6 (enc := enc) (C := Try.checked) false ⟨#[], #[.slice none 0 0, .slice none 0 0, .slice none 0 0], []⟩ 8 (by kernel_rfl) (by kernel_rfl) (by kernel_rfl) (by kernel_rfl)) (by rw [Try.params12]; exact walk)

theorem over : Rows.shrinkWordsRow.holds Try.pinned (OpenSpec.ofChange Rows.shrinkWordsSpec) :=
  OpenClaim.holds_of_wide 12 Try.f12 rfl rfl rfl rfl rfl rfl rfl ⟨rfl, rfl, rfl, rfl, rfl⟩ rfl rfl rfl rfl rfl (by kernel_rfl) Try.func12 (by kernel_rfl)
    (of_decide_eq_true (by kernel_rfl)) (by unfold Func.isWrapper; first | (rw [if_pos (by decide +kernel)]; kernel_rfl) | (rw [if_neg (by decide +kernel)]; exact ⟨rfl, rfl⟩))
    (fun os started H enc _ => lifted os started H enc)

theorem proved : Rows.ShrinkWordsSaid := over
end Go.Proofs.Ytmpbaanlagmacaa.lawWords
