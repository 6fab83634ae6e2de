/- ShrinkLeast: Least and Steps agree with the reference for any schedule and predicate, and leave the schedule unchanged. No condition. -/
import Derived.Test.YtmpbaanlagmacaaRows
import Derived.Test.YtmpbaanlagmacaaFr
import Derived.Test.YtmpbaanlagmacaaS15
namespace Go.Proofs.Ytmpbaanlagmacaa.lawLeast
open Go.ChangeShapes Go.WideShapes Go.ChangeAt Go.RowKit

theorem same_yes (A1 A2 : Option Addr) (n1 n2 c1 c2 : Nat) (l : List Pk) (B1 B2 : Nat) (w : World) (h1 : l.length = n1) (h2 : l.length = n2) (hb1 : n1 ≤ 1000) (hr1 : Rd w B1 3 A1 n1 (l.flatMap pkc)) (hr2 : Rd w B2 3 A2 n2 (l.flatMap pkc)) :
    Calls Try.prog 38 #[.slice A1 n1 c1, .slice A2 n2 c2] w fun e w' => e = .returned (.bool true) ∧ Below w.heap.size w w' := by
  refine (same_any A1 A2 n1 n2 c1 c2 l l B1 B2 w h1 h2 hb1 (by omega) hr1 hr2).mono ?_
  rintro e w' ⟨rfl, n, rfl⟩
  exact ⟨by simp, below_drewN (Below.refl _ _) n⟩

set_option maxHeartbeats 2000000 in
set_option maxRecDepth 100000 in
theorem least_small (k N : Int) (A A2 : Option Addr) (n n2 cap cap2 : Nat) (want l : List Pk) (W : World) (hk0 : 0 ≤ k) (hk1 : k ≤ 255) (hN0 : 0 ≤ N) (hN1 : N ≤ 255) (hn : want.length = n) (hb : n ≤ 20) (hn2 : l.length = n2) (hc2 : n2 ≤ cap2) (hb2 : n2 ≤ 40)
    (hr : Rd W W.heap.size 3 A n (want.flatMap pkc)) (hr2 : Rd W W.heap.size 3 A2 n2 (l.flatMap pkc)) :
    Calls Try.prog 9 #[.agg #[.int .u8 k, .slice A n cap, .int .u8 N], .slice A2 n2 cap2] W fun e w' => e = .returned (.bool true) ∧ Below W.heap.size W w' := by
  obtain ⟨i0, hi, iz0, iz1, iz2⟩ := info_parts info_pickA
  have Hn := hide hn
  have Hn2 := hide hn2
  clear hn hn2
  go_enter Try.func9, Try.ntmps9
  go_wp2_with fail
  refine (great_no k N A A2 n n2 cap cap2 _ hb hb2).mono ?_
  rintro e w1 ⟨rfl, hb1⟩
  obtain ⟨hcc1, hff1⟩ := bcell hb1; have hs1 := hb1.size; (try simp at hs1); have hz1 : W.heap.size < w1.heap.size := (by omega)
  go_wp2_with (at_builtin; (refine wpList_append_rd rfl _ _ 63 rfl w1.heap.size 82 i0 _ 3 24 Try.underlying63 hi iz0 iz1 iz2 rfl (by decide) (.slice (some ⟨w1.heap.size, 0, none⟩) 0 0) 0 [] rfl (World.ownsRow_made w1 #[] 0 (Nat.le_refl _) (Nat.zero_le _) rfl) A2 n2 cap2 _ rfl W.heap.size (hr2.below (by repeat' (first | with_reducible exact Below.refl _ _ | with_reducible assumption | with_reducible refine Below.alloc ?_ ?_ _ | with_reducible refine Below.setCell ?_ ?_ _ | with_reducible refine Below.drew ?_ | with_reducible refine below_drewN ?_ _ | with_reducible refine Below.trans ?_ (Below.mono (by with_reducible assumption) ?_) | omega | (simp <;> omega)))) (pkc_ones _) ?o1 ?o2 (by first | omega | (simp; done) | (simp; omega)) w1.heap.size w1 (by repeat' (first | with_reducible exact Below.refl _ _ | with_reducible assumption | with_reducible refine Below.alloc ?_ ?_ _ | with_reducible refine Below.setCell ?_ ?_ _ | with_reducible refine Below.drew ?_ | with_reducible refine below_drewN ?_ _ | with_reducible refine Below.trans ?_ (Below.mono (by with_reducible assumption) ?_) | omega | (simp <;> omega))) (Nat.le_refl _) ?_))
  case o1 => unfold maxLen; omega
  case o2 => omega
  intro v2 w2 hown2 hb2 hz2
  (try simp at hz2)
  obtain ⟨Ao, co, rfl, hco, _⟩ := own_slice hown2
  obtain ⟨_, _, e4, hro⟩ := Rd.of_own hown2
  injection e4 with e4 _ e5
  subst e4 e5
  obtain ⟨hcc2, hff2⟩ := bcell hb2; have hs2 := hb2.size; (try simp at hs2); have hz2 : W.heap.size < w2.heap.size := (by omega)
  clear hown2
  go_wp2_with fail
  refine (look_conv k N A n cap want W.heap.size _ hk0 hk1 hN0 hN1 Hn.out (by omega) (by omega) (hr.below (by repeat' (first | with_reducible exact Below.refl _ _ | with_reducible assumption | with_reducible refine Below.alloc ?_ ?_ _ | with_reducible refine Below.setCell ?_ ?_ _ | with_reducible refine Below.drew ?_ | with_reducible refine below_drewN ?_ _ | with_reducible refine Below.trans ?_ (Below.mono (by with_reducible assumption) ?_) | omega | (simp <;> omega))))).mono ?_
  rintro e w3 ⟨A3, c3, rfl, hr3, hb3⟩
  obtain ⟨hcc3, hff3⟩ := bcell hb3; have hs3 := hb3.size; (try simp at hs3); have hz3 : W.heap.size < w3.heap.size := (by omega)
  go_wp2_with fail
  refine (of_any Ao n2 co l w2.heap.size _ Hn2.out (by omega) (by omega) (hro.below hb3)).mono ?_
  rintro e w4 ⟨A4, c4, rfl, hown4, hb4⟩
  obtain ⟨hcc4, hff4⟩ := bcell hb4; have hs4 := hb4.size; (try simp at hs4); have hz4 : W.heap.size < w4.heap.size := (by omega)
  obtain ⟨_, _, e4, hr4⟩ := Rd.of_own hown4
  injection e4 with e4 _ e5
  subst e4 e5
  clear hown4
  go_wp2_with fail
  refine (rleast_any k N A3 A4 n n2 c3 c4 want l w3.heap.size _ hk0 hN0 Hn.out (by omega) Hn2.out (by omega) (by omega) (hr3.below hb4) hr4).mono ?_
  rintro e w5 ⟨A5, n5, c5, rfl, hl5, hr5, hb5⟩
  obtain ⟨hcc5, hff5⟩ := bcell hb5; have hs5 := hb5.size; (try simp at hs5); have hz5 : W.heap.size < w5.heap.size := (by omega)
  go_wp2_with fail
  refine (least_w k N A A2 n n2 cap cap2 want l W _ hk0 (by omega) hN0 hN1 Hn.out (by omega) Hn2.out hc2 (by omega) hr ((hr2.below (by repeat' (first | with_reducible exact Below.refl _ _ | with_reducible assumption | with_reducible refine Below.alloc ?_ ?_ _ | with_reducible refine Below.setCell ?_ ?_ _ | with_reducible refine Below.drew ?_ | with_reducible refine below_drewN ?_ _ | with_reducible refine Below.trans ?_ (Below.mono (by with_reducible assumption) ?_) | omega | (simp <;> omega)))).more (by first | omega | (simp; done) | (simp; omega))) (by repeat' (first | with_reducible exact Below.refl _ _ | with_reducible assumption | with_reducible refine Below.alloc ?_ ?_ _ | with_reducible refine Below.setCell ?_ ?_ _ | with_reducible refine Below.drew ?_ | with_reducible refine below_drewN ?_ _ | with_reducible refine Below.trans ?_ (Below.mono (by with_reducible assumption) ?_) | omega | (simp <;> omega)))).mono ?_
  rintro e w6 ⟨A6, n6, c6, rfl, hl6, hc6, hr6, hb6⟩
  obtain ⟨hcc6, hff6⟩ := bcell hb6; have hs6 := hb6.size; (try simp at hs6); have hz6 : W.heap.size < w6.heap.size := (by omega)
  have hlen : n6 ≤ 40 := by rw [← hl6]; exact Nat.le_trans (leastP_len _ _) (by rw [Hn2.out]; exact ‹n2 ≤ 40›)
  go_wp2_with fail
  refine (same_yes A6 A5 n6 n5 c6 c5 _ _ _ _ hl6 hl5 (by omega) hr6 (hr5.below hb6)).mono ?_
  rintro e w7 ⟨rfl, hb7⟩
  obtain ⟨hcc7, hff7⟩ := bcell hb7; have hs7 := hb7.size; (try simp at hs7); have hz7 : W.heap.size < w7.heap.size := (by omega)
  go_wp2_with fail
  refine (steps_w k N A A2 n n2 cap cap2 want l W _ hk0 (by omega) hN0 hN1 Hn.out (by omega) Hn2.out hc2 (by omega) hr ((hr2.below (by repeat' (first | with_reducible exact Below.refl _ _ | with_reducible assumption | with_reducible refine Below.alloc ?_ ?_ _ | with_reducible refine Below.setCell ?_ ?_ _ | with_reducible refine Below.drew ?_ | with_reducible refine below_drewN ?_ _ | with_reducible refine Below.trans ?_ (Below.mono (by with_reducible assumption) ?_) | omega | (simp <;> omega)))).more (by first | omega | (simp; done) | (simp; omega))) (by repeat' (first | with_reducible exact Below.refl _ _ | with_reducible assumption | with_reducible refine Below.alloc ?_ ?_ _ | with_reducible refine Below.setCell ?_ ?_ _ | with_reducible refine Below.drew ?_ | with_reducible refine below_drewN ?_ _ | with_reducible refine Below.trans ?_ (Below.mono (by with_reducible assumption) ?_) | omega | (simp <;> omega)))).mono ?_
  rintro e w8 ⟨rfl, hb8⟩
  obtain ⟨hcc8, hff8⟩ := bcell hb8; have hs8 := hb8.size; (try simp at hs8); have hz8 : W.heap.size < w8.heap.size := (by omega)
  go_wp2_with fail
  refine (alike_yes A2 Ao n2 n2 cap2 co l W.heap.size w2.heap.size _ Hn2.out Hn2.out (by omega) (hr2.below (by repeat' (first | with_reducible exact Below.refl _ _ | with_reducible assumption | with_reducible refine Below.alloc ?_ ?_ _ | with_reducible refine Below.setCell ?_ ?_ _ | with_reducible refine Below.drew ?_ | with_reducible refine below_drewN ?_ _ | with_reducible refine Below.trans ?_ (Below.mono (by with_reducible assumption) ?_) | omega | (simp <;> omega)))) (hro.below (by repeat' (first | with_reducible exact Below.refl _ _ | with_reducible assumption | with_reducible refine Below.alloc ?_ ?_ _ | with_reducible refine Below.setCell ?_ ?_ _ | with_reducible refine Below.drew ?_ | with_reducible refine below_drewN ?_ _ | with_reducible refine Below.trans ?_ (Below.mono (by with_reducible assumption) ?_) | omega | (simp <;> omega))))).mono ?_
  rintro e w9 ⟨rfl, hb9⟩
  obtain ⟨hcc9, hff9⟩ := bcell hb9; have hs9 := hb9.size; (try simp at hs9); have hz9 : W.heap.size < w9.heap.size := (by omega)
  go_wp2_with fail
  refine (awake60_any _).mono ?_
  rintro e w10 ⟨rfl, hb10⟩
  go_wp2
  go_ret
  exact ⟨rfl, (by repeat' (first | with_reducible exact Below.refl _ _ | with_reducible assumption | with_reducible refine Below.alloc ?_ ?_ _ | with_reducible refine Below.setCell ?_ ?_ _ | with_reducible refine Below.drew ?_ | with_reducible refine below_drewN ?_ _ | with_reducible refine Below.trans ?_ (Below.mono (by with_reducible assumption) ?_) | omega | (simp <;> omega)))⟩

theorem least_great (k N : Int) (A A2 : Option Addr) (n n2 cap cap2 : Nat) (W : World) (h1 : n ≤ maxLen) (h2 : n2 ≤ maxLen) (h : 20 < n ∨ 40 < n2) :
    Calls Try.prog 9 #[.agg #[.int .u8 k, .slice A n cap, .int .u8 N], .slice A2 n2 cap2] W fun e w' => e = .returned (.bool true) ∧ Below W.heap.size W w' := by
  go_enter Try.func9, Try.ntmps9
  go_wp2_with fail
  refine (great_yes k N A A2 n n2 cap cap2 _ h1 h2 h).mono ?_
  rintro e w1 ⟨rfl, hb1⟩
  have hs1 := hb1.size
  (try simp at hs1)
  go_wp2_with fail
  refine (awake60_any _).mono ?_
  rintro e w2 ⟨rfl, hb2⟩
  go_wp2
  go_ret
  exact ⟨rfl, (by repeat' (first | with_reducible exact Below.refl _ _ | with_reducible assumption | with_reducible refine Below.alloc ?_ ?_ _ | with_reducible refine Below.setCell ?_ ?_ _ | with_reducible refine Below.drew ?_ | with_reducible refine below_drewN ?_ _ | with_reducible refine Below.trans ?_ (Below.mono (by with_reducible assumption) ?_) | omega | (simp <;> omega)))⟩

theorem own : ownKnob Try.prog.godebug = none := by kernel_rfl

set_option maxRecDepth 100000 in
theorem walk : LawWalk Try.prog 9 #[65, 63] := by
  intro H enc W base args ds p hval hA hlt
  obtain ⟨v0, v1, d0, d1, p0, p1, rfl, rfl, rfl, h0, h1⟩ := trodAll_two hA
  obtain ⟨k, N, A, n, cap, want, rfl, k0, k1, N0, N1, hc, hm, hn, hr⟩ := rd_look (hval 0 65 v0 rfl rfl) h0
  obtain ⟨A2, n2, cap2, l, rfl, hc2, hm2, hn2, hr2⟩ := rd_picks (hval 1 63 v1 rfl rfl) h1
  by_cases h : n ≤ 20 ∧ n2 ≤ 40
  · exact least_small k N A A2 n n2 cap cap2 want l W k0 k1 N0 N1 hn h.1 hn2 hc2 h.2 hr hr2
  · exact least_great k N A A2 n n2 cap cap2 W hm hm2 (by omega)

set_option maxRecDepth 100000 in
theorem lifted (os : Os) (started : os.Started) (H : Type) (enc : TypeId × Value → H) :
    ReturnsInHanded {} Try.checked os 9 .any (Rows.shrinkLeastSpec.pre6 enc Try.prog Try.f9 Rows.shrinkLeastRow.domain false) (Rows.shrinkLeastSpec.post enc Try.prog Try.f9 false true false false) :=
  law_lifted (C := Try.checked) started own (by kernel_rfl) (by kernel_rfl) Try.func9 (by kernel_rfl) Try.underlying4 (by kernel_rfl)
    ⟨rfl, fun H ds h => by match ds, h with | [d1, d2], _ => exact ⟨rfl, rfl, rfl⟩⟩
    (ChangeSpec.witness6 (enc := enc) (C := Try.checked) false ⟨#[], #[.agg #[.int .u8 0, .slice none 0 0, .int .u8 0], .slice none 0 0], []⟩ 8 (by kernel_rfl) (by kernel_rfl) (by kernel_rfl) (by kernel_rfl)) (by rw [Try.params9]; exact walk)

theorem over : Rows.shrinkLeastRow.holds Try.pinned (OpenSpec.ofChange Rows.shrinkLeastSpec) :=
  OpenClaim.holds_of_wide 9 Try.f9 rfl rfl rfl rfl rfl rfl rfl ⟨rfl, rfl, rfl, rfl, rfl⟩ rfl rfl rfl rfl rfl (by kernel_rfl) Try.func9 (by kernel_rfl)
    (of_decide_eq_true (by kernel_rfl)) (by unfold Func.isWrapper; first | (rw [if_pos (by decide +kernel)]; kernel_rfl) | (rw [if_neg (by decide +kernel)]; exact ⟨rfl, rfl⟩))
    (fun os started H enc _ => lifted os started H enc)

theorem proved : Rows.ShrinkLeastSaid := over
end Go.Proofs.Ytmpbaanlagmacaa.lawLeast
