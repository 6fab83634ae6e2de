/- ShrinkMonotone: for a monotone predicate the first pass tries every index once and reaches the result, so that the number of evaluations is determined by the two lengths. No condition. -/
import Derived.Test.YtmpbaanlagmacaaRows
import Derived.Test.YtmpbaanlagmacaaFr
import Derived.Test.YtmpbaanlagmacaaS12
namespace Go.Proofs.Ytmpbaanlagmacaa.lawMono
open Go.ChangeShapes Go.WideShapes Go.ChangeAt Go.RowKit

set_option maxHeartbeats 2000000 in
set_option maxRecDepth 100000 in
theorem mono_small (q k N : Int) (A A2 : Option Addr) (n n2 cap cap2 : Nat) (want l : List Pk) (W : World) (hk0 : 0 ≤ k) (hk1 : k ≤ 255) (hN0 : 0 ≤ N) (hN1 : N ≤ 255) (hn : want.length = n) (hb : n ≤ 20) (hn2 : l.length = n2) (hc2 : n2 ≤ cap2) (hb2 : n2 ≤ 40)
    (hr : Rd W W.heap.size 3 A n (want.flatMap pkc)) (hr2 : Rd W W.heap.size 3 A2 n2 (l.flatMap pkc)) (hq : k % 2 = q) (hq0 : 0 ≤ q) (hq1 : q ≤ 1) :
    Calls Try.prog 14 #[.agg #[.int .u8 k, .slice A n cap, .int .u8 N], .slice A2 n2 cap2] W fun e w' => e = .returned (.bool true) ∧ Below W.heap.size W w' := by
  obtain ⟨F, hF⟩ : ∃ F, F = leastP (badP q N want) l := ⟨_, rfl⟩
  obtain ⟨b, hbd⟩ : ∃ b, b = badP q N want l := ⟨_, rfl⟩
  have Hn := hide hn
  have Hn2 := hide hn2
  have HF := hide hF
  have Hb := hide hbd
  clear hn hn2 hF hbd
  go_enter Try.func14, Try.ntmps14
  go_wp2_with fail
  refine (great_no k N A A2 n n2 cap cap2 _ hb hb2).mono ?_
  rintro e w1 ⟨rfl, hb1⟩
  obtain ⟨hcc1, hff1⟩ := bcell hb1; have hs1 := hb1.size; (try simp at hs1); have hz1 : W.heap.size < w1.heap.size := (by omega)
  go_wp2_with fail
  refine (least_w q N A A2 n n2 cap cap2 want l W _ hq0 (by omega) hN0 hN1 Hn.out (by omega) Hn2.out hc2 (by omega) hr ((hr2.below (by repeat' (first | with_reducible exact Below.refl _ _ | with_reducible assumption | with_reducible refine Below.alloc ?_ ?_ _ | with_reducible refine Below.setCell ?_ ?_ _ | with_reducible refine Below.drew ?_ | with_reducible refine below_drewN ?_ _ | with_reducible refine Below.trans ?_ (Below.mono (by with_reducible assumption) ?_) | omega | (simp <;> omega)))).more (by first | omega | (simp; done) | (simp; omega))) (by repeat' (first | with_reducible exact Below.refl _ _ | with_reducible assumption | with_reducible refine Below.alloc ?_ ?_ _ | with_reducible refine Below.setCell ?_ ?_ _ | with_reducible refine Below.drew ?_ | with_reducible refine below_drewN ?_ _ | with_reducible refine Below.trans ?_ (Below.mono (by with_reducible assumption) ?_) | omega | (simp <;> omega)))).mono ?_
  rintro e w2 ⟨A', n', cap', rfl, hl', hc', hrd, hb2⟩
  obtain ⟨hcc2, hff2⟩ := bcell hb2; have hs2 := hb2.size; (try simp at hs2); have hz2 : W.heap.size < w2.heap.size := (by omega)
  rw [← HF.out] at hl' hrd
  go_wp2_with fail
  refine (steps_w q N A A2 n n2 cap cap2 want l W _ hq0 (by omega) hN0 hN1 Hn.out (by omega) Hn2.out hc2 (by omega) hr ((hr2.below (by repeat' (first | with_reducible exact Below.refl _ _ | with_reducible assumption | with_reducible refine Below.alloc ?_ ?_ _ | with_reducible refine Below.setCell ?_ ?_ _ | with_reducible refine Below.drew ?_ | with_reducible refine below_drewN ?_ _ | with_reducible refine Below.trans ?_ (Below.mono (by with_reducible assumption) ?_) | omega | (simp <;> omega)))).more (by first | omega | (simp; done) | (simp; omega))) (by repeat' (first | with_reducible exact Below.refl _ _ | with_reducible assumption | with_reducible refine Below.alloc ?_ ?_ _ | with_reducible refine Below.setCell ?_ ?_ _ | with_reducible refine Below.drew ?_ | with_reducible refine below_drewN ?_ _ | with_reducible refine Below.trans ?_ (Below.mono (by with_reducible assumption) ?_) | omega | (simp <;> omega)))).mono ?_
  rintro e w3 ⟨rfl, hb3⟩
  obtain ⟨hcc3, hff3⟩ := bcell hb3; have hs3 := hb3.size; (try simp at hs3); have hz3 : W.heap.size < w3.heap.size := (by omega)
  rw [← HF.out]
  go_wp2_with fail
  refine (lookbad_w q N A A2 n n2 cap cap2 want l W _ hq0 (by omega) hN0 hN1 Hn.out (by omega) Hn2.out (by omega) hr ((hr2.below (by repeat' (first | with_reducible exact Below.refl _ _ | with_reducible assumption | with_reducible refine Below.alloc ?_ ?_ _ | with_reducible refine Below.setCell ?_ ?_ _ | with_reducible refine Below.drew ?_ | with_reducible refine below_drewN ?_ _ | with_reducible refine Below.trans ?_ (Below.mono (by with_reducible assumption) ?_) | omega | (simp <;> omega)))).more (by first | omega | (simp; done) | (simp; omega))) (by repeat' (first | with_reducible exact Below.refl _ _ | with_reducible assumption | with_reducible refine Below.alloc ?_ ?_ _ | with_reducible refine Below.setCell ?_ ?_ _ | with_reducible refine Below.drew ?_ | with_reducible refine below_drewN ?_ _ | with_reducible refine Below.trans ?_ (Below.mono (by with_reducible assumption) ?_) | omega | (simp <;> omega)))).mono ?_
  rintro e w4 ⟨rfl, hb4⟩
  obtain ⟨hcc4, hff4⟩ := bcell hb4; have hs4 := hb4.size; (try simp at hs4); have hz4 : W.heap.size < w4.heap.size := (by omega)
  rw [← Hb.out]
  have hlc : n' ≤ n2 := by rw [← hl', HF.out, ← Hn2.out]; exact leastP_len _ _
  cases b with
  | false =>
    have hFF : F = (l, 1) := by rw [HF.out]; exact leastP_false _ _ Hb.out.symm
    subst hFF
    go_wp2_with fail
    refine (alike_yes A' A2 n' n2 cap' cap2 l _ _ _ hl' Hn2.out (by omega) (hrd.below (by repeat' (first | with_reducible exact Below.refl _ _ | with_reducible assumption | with_reducible refine Below.alloc ?_ ?_ _ | with_reducible refine Below.setCell ?_ ?_ _ | with_reducible refine Below.drew ?_ | with_reducible refine below_drewN ?_ _ | with_reducible refine Below.trans ?_ (Below.mono (by with_reducible assumption) ?_) | omega | (simp <;> omega)))) (hr2.below (by repeat' (first | with_reducible exact Below.refl _ _ | with_reducible assumption | with_reducible refine Below.alloc ?_ ?_ _ | with_reducible refine Below.setCell ?_ ?_ _ | with_reducible refine Below.drew ?_ | with_reducible refine below_drewN ?_ _ | with_reducible refine Below.trans ?_ (Below.mono (by with_reducible assumption) ?_) | omega | (simp <;> omega))))).mono ?_
    rintro e w5 ⟨rfl, hb5⟩
    obtain ⟨hcc5, hff5⟩ := bcell hb5; have hs5 := hb5.size; (try simp at hs5); have hz5 : W.heap.size < w5.heap.size := (by omega)
    go_wp2_with fail
    refine (awake60_any _).mono ?_
    rintro e w6 ⟨rfl, hb6⟩
    go_wp2
    go_ret
    exact ⟨rfl, (by repeat' (first | with_reducible exact Below.refl _ _ | with_reducible assumption | with_reducible refine Below.alloc ?_ ?_ _ | with_reducible refine Below.setCell ?_ ?_ _ | with_reducible refine Below.drew ?_ | with_reducible refine below_drewN ?_ _ | with_reducible refine Below.trans ?_ (Below.mono (by with_reducible assumption) ?_) | omega | (simp <;> omega)))⟩
  | true =>
    have hmono : Mono (badP q N want) := by
      rcases (show q = 0 ∨ q = 1 by omega) with h | h
      · rw [h]; exact mono_sub N want
      · rw [h]; exact mono_one N want
    have hst := (leastP_mono _ hmono l Hb.out.symm).1
    rw [← HF.out, Hn2.out, hl'] at hst
    have hlen : (n' : Int) = if q = 0 then (n : Int) else N % 7 := by
      rcases (show q = 0 ∨ q = 1 by omega) with h | h
      · have hb := Hb.out.symm
        have hf := HF.out
        rw [h] at hb hf
        rw [if_pos h, ← hl', hf, least_words N want l ((badP_sub N want l).1 hb), Hn.out]
      · have hb := Hb.out.symm
        have hf := HF.out
        rw [h] at hb hf
        rw [if_neg (by omega), ← hl', hf]
        exact least_one N want l hb
    obtain ⟨s, m⟩ := F
    clear hmono
    rcases (show q = 0 ∨ q = 1 by omega) with h | h
    all_goals subst h
    all_goals by_cases hlt : n' < n2
    all_goals first | rw [if_pos hlt] at hst | (rw [if_neg hlt] at hst; obtain rfl : n' = n2 := by omega)
    all_goals first | (rw [if_pos rfl] at hlen; obtain rfl : n = n' := by omega) | rw [if_neg (by decide)] at hlen
    all_goals (obtain rfl : m = _ := hst)
    all_goals go_wp2_with fail
    all_goals refine (awake60_any _).mono ?_
    all_goals (rintro e w6 ⟨rfl, hb6⟩)
    all_goals go_wp2
    all_goals go_ret
    all_goals exact ⟨rfl, (by repeat' (first | with_reducible exact Below.refl _ _ | with_reducible assumption | with_reducible refine Below.alloc ?_ ?_ _ | with_reducible refine Below.setCell ?_ ?_ _ | with_reducible refine Below.drew ?_ | with_reducible refine below_drewN ?_ _ | with_reducible refine Below.trans ?_ (Below.mono (by with_reducible assumption) ?_) | omega | (simp <;> omega)))⟩

theorem mono_great (k N : Int) (A A2 : Option Addr) (n n2 cap cap2 : Nat) (W : World) (h1 : n ≤ maxLen) (h2 : n2 ≤ maxLen) (h : 20 < n ∨ 40 < n2) :
    Calls Try.prog 14 #[.agg #[.int .u8 k, .slice A n cap, .int .u8 N], .slice A2 n2 cap2] W fun e w' => e = .returned (.bool true) ∧ Below W.heap.size W w' := by
  go_enter Try.func14, Try.ntmps14
  go_wp2_with fail
  refine (great_yes k N A A2 n n2 cap cap2 _ h1 h2 h).mono ?_
  rintro e w1 ⟨rfl, hb1⟩
  have hs1 := hb1.size
  (try simp at hs1)
  go_wp2_with fail
  refine (awake60_any _).mono ?_
  rintro e w2 ⟨rfl, hb2⟩
  go_wp2
  go_ret
  exact ⟨rfl, (by repeat' (first | with_reducible exact Below.refl _ _ | with_reducible assumption | with_reducible refine Below.alloc ?_ ?_ _ | with_reducible refine Below.setCell ?_ ?_ _ | with_reducible refine Below.drew ?_ | with_reducible refine below_drewN ?_ _ | with_reducible refine Below.trans ?_ (Below.mono (by with_reducible assumption) ?_) | omega | (simp <;> omega)))⟩

theorem own : ownKnob Try.prog.godebug = none := by kernel_rfl

set_option maxRecDepth 100000 in
theorem walk : LawWalk Try.prog 14 #[65, 63] := by
  intro H enc W base args ds p hval hA hlt
  obtain ⟨v0, v1, d0, d1, p0, p1, rfl, rfl, rfl, h0, h1⟩ := trodAll_two hA
  obtain ⟨k, N, A, n, cap, want, rfl, k0, k1, N0, N1, hc, hm, hn, hr⟩ := rd_look (hval 0 65 v0 rfl rfl) h0
  obtain ⟨A2, n2, cap2, l, rfl, hc2, hm2, hn2, hr2⟩ := rd_picks (hval 1 63 v1 rfl rfl) h1
  by_cases h : n ≤ 20 ∧ n2 ≤ 40
  · exact mono_small (k % 2) k N A A2 n n2 cap cap2 want l W k0 k1 N0 N1 hn h.1 hn2 hc2 h.2 hr hr2 rfl (by omega) (by omega)
  · exact mono_great k N A A2 n n2 cap cap2 W hm hm2 (by omega)

set_option maxRecDepth 100000 in
theorem lifted (os : Os) (started : os.Started) (H : Type) (enc : TypeId × Value → H) :
    ReturnsInHanded {} Try.checked os 14 .any (Rows.shrinkMonotoneSpec.pre6 enc Try.prog Try.f14 Rows.shrinkMonotoneRow.domain false) (Rows.shrinkMonotoneSpec.post enc Try.prog Try.f14 false true false false) :=
  law_lifted (C := Try.checked) started own (by kernel_rfl) (by kernel_rfl) Try.func14 (by kernel_rfl) Try.underlying4 (by kernel_rfl)
    ⟨rfl, fun H ds h => by match ds, h with | [d1, d2], _ => exact ⟨rfl, rfl, rfl⟩⟩
    (ChangeSpec.witness6 (enc := enc) (C := Try.checked) false ⟨#[], #[.agg #[.int .u8 0, .slice none 0 0, .int .u8 0], .slice none 0 0], []⟩ 8 (by kernel_rfl) (by kernel_rfl) (by kernel_rfl) (by kernel_rfl)) (by rw [Try.params14]; exact walk)

theorem over : Rows.shrinkMonotoneRow.holds Try.pinned (OpenSpec.ofChange Rows.shrinkMonotoneSpec) :=
  OpenClaim.holds_of_wide 14 Try.f14 rfl rfl rfl rfl rfl rfl rfl ⟨rfl, rfl, rfl, rfl, rfl⟩ rfl rfl rfl rfl rfl (by kernel_rfl) Try.func14 (by kernel_rfl)
    (of_decide_eq_true (by kernel_rfl)) (by unfold Func.isWrapper; first | (rw [if_pos (by decide +kernel)]; kernel_rfl) | (rw [if_neg (by decide +kernel)]; exact ⟨rfl, rfl⟩))
    (fun os started H enc _ => lifted os started H enc)

theorem proved : Rows.ShrinkMonotoneSaid := over
end Go.Proofs.Ytmpbaanlagmacaa.lawMono
