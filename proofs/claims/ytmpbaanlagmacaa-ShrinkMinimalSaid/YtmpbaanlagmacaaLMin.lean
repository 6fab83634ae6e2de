/- ShrinkMinimal: Minimal agrees with the reference. No condition. -/
import Derived.Test.YtmpbaanlagmacaaRows
import Derived.Test.YtmpbaanlagmacaaFr
import Derived.Test.YtmpbaanlagmacaaS15
namespace Go.Proofs.Ytmpbaanlagmacaa.lawMin
open Go.ChangeShapes Go.WideShapes Go.ChangeAt Go.RowKit

set_option maxHeartbeats 2000000 in
set_option maxRecDepth 100000 in
theorem min_small (k N : Int) (A A2 : Option Addr) (n n2 cap cap2 : Nat) (want l : List Pk) (W : World) (hk0 : 0 ≤ k) (hk1 : k ≤ 255) (hN0 : 0 ≤ N) (hN1 : N ≤ 255) (hn : want.length = n) (hb : n ≤ 20) (hn2 : l.length = n2) (hc2 : n2 ≤ cap2) (hb2 : n2 ≤ 40)
    (hr : Rd W W.heap.size 3 A n (want.flatMap pkc)) (hr2 : Rd W W.heap.size 3 A2 n2 (l.flatMap pkc)) :
    Calls Try.prog 10 #[.agg #[.int .u8 k, .slice A n cap, .int .u8 N], .slice A2 n2 cap2] W fun e w' => e = .returned (.bool true) ∧ Below W.heap.size W w' := by
  obtain ⟨b, hbd⟩ : ∃ b, b = minimalP (badP k N want) l := ⟨_, rfl⟩
  have Hb := hide hbd
  have Hn := hide hn
  have Hn2 := hide hn2
  clear hn hn2 hbd
  go_enter Try.func10, Try.ntmps10
  go_wp2_with fail
  refine (great_no k N A A2 n n2 cap cap2 _ hb hb2).mono ?_
  rintro e w1 ⟨rfl, hb1⟩
  obtain ⟨hcc1, hff1⟩ := bcell hb1; have hs1 := hb1.size; (try simp at hs1); have hz1 : W.heap.size < w1.heap.size := (by omega)
  have hB1 : Below W.heap.size W w1 := (by repeat' (first | with_reducible exact Below.refl _ _ | with_reducible assumption | with_reducible refine Below.alloc ?_ ?_ _ | with_reducible refine Below.setCell ?_ ?_ _ | with_reducible refine Below.drew ?_ | with_reducible refine below_drewN ?_ _ | with_reducible refine Below.trans ?_ (Below.mono (by with_reducible assumption) ?_) | omega | (simp <;> omega)))
  have k0 : w1.cell? ⟨W.heap.size, 0, none⟩ = some (.int .u8 k) := by go_simp
  have k1 : w1.cell? ⟨W.heap.size, 1, none⟩ = some (.slice A n cap) := by go_simp
  have k2 : w1.cell? ⟨W.heap.size, 2, none⟩ = some (.int .u8 N) := by go_simp
  have hr2w := (hr2.below hB1).more (by omega : W.heap.size ≤ w1.heap.size)
  clear hcc1 hff1 hb1
  go_wp2_with fail
  go_region_held3 (fun w' => w'.cell? ⟨W.heap.size, 0, none⟩ = some (.int .u8 k) ∧ w'.cell? ⟨W.heap.size, 1, none⟩ = some (.slice A n cap) ∧ w'.cell? ⟨W.heap.size, 2, none⟩ = some (.int .u8 N))
    (first | exact ⟨by go_simp, by go_simp, by go_simp⟩ | go_keep)
    (first
      | (go_at_call 42; refine (minimal_w k N A A2 n n2 cap cap2 want l W _ hk0 (by omega) hN0 hN1 Hn.out (by omega) Hn2.out hc2 (by omega) hr ((hr2w.below (by repeat' (first | with_reducible exact Below.refl _ _ | with_reducible assumption | with_reducible refine Below.alloc ?_ ?_ _ | with_reducible refine Below.setCell ?_ ?_ _ | with_reducible refine Below.drew ?_ | with_reducible refine below_drewN ?_ _ | with_reducible refine Below.trans ?_ (Below.mono (by with_reducible assumption) ?_) | omega | (simp <;> omega)))).more (by first | omega | (simp; done) | (simp; omega))) (by repeat' (first | with_reducible exact Below.refl _ _ | with_reducible assumption | with_reducible refine Below.alloc ?_ ?_ _ | with_reducible refine Below.setCell ?_ ?_ _ | with_reducible refine Below.drew ?_ | with_reducible refine below_drewN ?_ _ | with_reducible refine Below.trans ?_ (Below.mono (by with_reducible assumption) ?_) | omega | (simp <;> omega)))).mono ?_; rintro e w2 ⟨rfl, hb2'⟩; have hb2 : Below _ _ w2 := (by first | with_reducible exact noDrew hb2' | exact hb2'); clear hb2'; obtain ⟨hcc2, hff2⟩ := bcell hb2; have hs2 := hb2.size; have hz2 : W.heap.size < w2.heap.size := (by omega))
      | (go_at_call 36; refine (look_conv k N A n cap want W.heap.size _ hk0 hk1 hN0 hN1 Hn.out (by omega) (by first | omega | (simp; done) | (simp; omega)) (hr.below (by repeat' (first | with_reducible exact Below.refl _ _ | with_reducible assumption | with_reducible refine Below.alloc ?_ ?_ _ | with_reducible refine Below.setCell ?_ ?_ _ | with_reducible refine Below.drew ?_ | with_reducible refine below_drewN ?_ _ | with_reducible refine Below.trans ?_ (Below.mono (by with_reducible assumption) ?_) | omega | (simp <;> omega))))).mono ?_; rintro e w3 ⟨A3, c3, rfl, hr3, hb3'⟩; have hb3 : Below _ _ w3 := (by first | with_reducible exact noDrew hb3' | exact hb3'); clear hb3'; obtain ⟨hcc3, hff3⟩ := bcell hb3; have hs3 := hb3.size; have hz3 : W.heap.size < w3.heap.size := (by omega))
      | (go_at_call 37; refine (of_any A2 n2 cap2 l W.heap.size _ Hn2.out (by omega) (by first | omega | (simp; done) | (simp; omega)) (hr2.below (by repeat' (first | with_reducible exact Below.refl _ _ | with_reducible assumption | with_reducible refine Below.alloc ?_ ?_ _ | with_reducible refine Below.setCell ?_ ?_ _ | with_reducible refine Below.drew ?_ | with_reducible refine below_drewN ?_ _ | with_reducible refine Below.trans ?_ (Below.mono (by with_reducible assumption) ?_) | omega | (simp <;> omega))))).mono ?_; rintro e w4 ⟨A4, c4, rfl, hown4, hb4'⟩; obtain ⟨_, _, e4', hc4, _⟩ := own_slice hown4; injection e4' with e4' _ e5'; subst e4' e5'; have hr4 := Rd.of_own hown4; have hb4 : Below _ _ w4 := (by first | with_reducible exact noDrew hb4' | exact hb4'); clear hb4' hown4; obtain ⟨hcc4, hff4⟩ := bcell hb4; have hs4 := hb4.size; have hz4 : W.heap.size < w4.heap.size := (by omega))
      | (go_at_call 43; obtain ⟨_, _, e4, hr4'⟩ := hr4; injection e4 with e4 _ e5; subst e4 e5; refine (rminimal_any k N A3 A4 n n2 c3 c4 want l w3.heap.size _ hk0 hN0 Hn.out (by omega) Hn2.out (by omega) hc4 (by first | omega | (simp; done) | (simp; omega)) (hr3.below (by repeat' (first | with_reducible exact Below.refl _ _ | with_reducible assumption | with_reducible refine Below.alloc ?_ ?_ _ | with_reducible refine Below.setCell ?_ ?_ _ | with_reducible refine Below.drew ?_ | with_reducible refine below_drewN ?_ _ | with_reducible refine Below.trans ?_ (Below.mono (by with_reducible assumption) ?_) | omega | (simp <;> omega)))) ((hr4'.below (by repeat' (first | with_reducible exact Below.refl _ _ | with_reducible assumption | with_reducible refine Below.alloc ?_ ?_ _ | with_reducible refine Below.setCell ?_ ?_ _ | with_reducible refine Below.drew ?_ | with_reducible refine below_drewN ?_ _ | with_reducible refine Below.trans ?_ (Below.mono (by with_reducible assumption) ?_) | omega | (simp <;> omega)))).more (by first | omega | (simp; done) | (simp; omega)))).mono ?_; rintro e w5 ⟨rfl, hb5'⟩; have hb5 : Below _ _ w5 := (by first | with_reducible exact noDrew hb5' | exact hb5'); clear hb5'; obtain ⟨hcc5, hff5⟩ := bcell hb5; have hs5 := hb5.size; have hz5 : W.heap.size < w5.heap.size := (by omega))
      | (go_at_call 34; refine (awake60_any _).mono ?_; rintro e w6 ⟨rfl, hb6'⟩; have hb6 : Below _ _ w6 := (by first | with_reducible exact noDrew hb6' | exact hb6'); clear hb6'; obtain ⟨hcc6, hff6⟩ := bcell hb6; have hs6 := hb6.size; have hz6 : W.heap.size < w6.heap.size := (by omega)))
  all_goals go_wp2
  all_goals go_ret
  all_goals exact ⟨rfl, (by repeat' (first | with_reducible exact Below.refl _ _ | with_reducible assumption | with_reducible refine Below.alloc ?_ ?_ _ | with_reducible refine Below.setCell ?_ ?_ _ | with_reducible refine Below.drew ?_ | with_reducible refine below_drewN ?_ _ | with_reducible refine Below.trans ?_ (Below.mono (by with_reducible assumption) ?_) | omega | (simp <;> omega)))⟩

theorem min_great (k N : Int) (A A2 : Option Addr) (n n2 cap cap2 : Nat) (W : World) (h1 : n ≤ maxLen) (h2 : n2 ≤ maxLen) (h : 20 < n ∨ 40 < n2) :
    Calls Try.prog 10 #[.agg #[.int .u8 k, .slice A n cap, .int .u8 N], .slice A2 n2 cap2] W fun e w' => e = .returned (.bool true) ∧ Below W.heap.size W w' := by
  go_enter Try.func10, Try.ntmps10
  go_wp2_with fail
  refine (great_yes k N A A2 n n2 cap cap2 _ h1 h2 h).mono ?_
  rintro e w1 ⟨rfl, hb1⟩
  have hs1 := hb1.size
  (try simp at hs1)
  go_wp2_with fail
  refine (awake60_any _).mono ?_
  rintro e w2 ⟨rfl, hb2⟩
  go_wp2
  go_ret
  exact ⟨rfl, (by repeat' (first | with_reducible exact Below.refl _ _ | with_reducible assumption | with_reducible refine Below.alloc ?_ ?_ _ | with_reducible refine Below.setCell ?_ ?_ _ | with_reducible refine Below.drew ?_ | with_reducible refine below_drewN ?_ _ | with_reducible refine Below.trans ?_ (Below.mono (by with_reducible assumption) ?_) | omega | (simp <;> omega)))⟩

theorem own : ownKnob Try.prog.godebug = none := by kernel_rfl

set_option maxRecDepth 100000 in
theorem walk : LawWalk Try.prog 10 #[65, 63] := by
  intro H enc W base args ds p hval hA hlt
  obtain ⟨v0, v1, d0, d1, p0, p1, rfl, rfl, rfl, h0, h1⟩ := trodAll_two hA
  obtain ⟨k, N, A, n, cap, want, rfl, k0, k1, N0, N1, hc, hm, hn, hr⟩ := rd_look (hval 0 65 v0 rfl rfl) h0
  obtain ⟨A2, n2, cap2, l, rfl, hc2, hm2, hn2, hr2⟩ := rd_picks (hval 1 63 v1 rfl rfl) h1
  by_cases h : n ≤ 20 ∧ n2 ≤ 40
  · exact min_small k N A A2 n n2 cap cap2 want l W k0 k1 N0 N1 hn h.1 hn2 hc2 h.2 hr hr2
  · exact min_great k N A A2 n n2 cap cap2 W hm hm2 (by omega)

set_option maxRecDepth 100000 in
theorem lifted (os : Os) (started : os.Started) (H : Type) (enc : TypeId × Value → H) :
    ReturnsInHanded {} Try.checked os 10 .any (Rows.shrinkMinimalSpec.pre6 enc Try.prog Try.f10 Rows.shrinkMinimalRow.domain false) (Rows.shrinkMinimalSpec.post enc Try.prog Try.f10 false true false false) :=
  law_lifted (C := Try.checked) started own (by kernel_rfl) (by kernel_rfl) Try.func10 (by kernel_rfl) Try.underlying4 (by kernel_rfl)
    ⟨rfl, fun H ds h => by match ds, h with | [d1, d2], _ => exact ⟨rfl, rfl, rfl⟩⟩
    (ChangeSpec.witness6 (enc := enc) (C := Try.checked) false ⟨#[], #[.agg #[.int .u8 0, .slice none 0 0, .int .u8 0], .slice none 0 0], []⟩ 8 (by kernel_rfl) (by kernel_rfl) (by kernel_rfl) (by kernel_rfl)) (by rw [Try.params10]; exact walk)

theorem over : Rows.shrinkMinimalRow.holds Try.pinned (OpenSpec.ofChange Rows.shrinkMinimalSpec) :=
  OpenClaim.holds_of_wide 10 Try.f10 rfl rfl rfl rfl rfl rfl rfl ⟨rfl, rfl, rfl, rfl, rfl⟩ rfl rfl rfl rfl rfl (by kernel_rfl) Try.func10 (by kernel_rfl)
    (of_decide_eq_true (by kernel_rfl)) (by unfold Func.isWrapper; first | (rw [if_pos (by decide +kernel)]; kernel_rfl) | (rw [if_neg (by decide +kernel)]; exact ⟨rfl, rfl⟩))
    (fun os started H enc _ => lifted os started H enc)

theorem proved : Rows.ShrinkMinimalSaid := over
end Go.Proofs.Ytmpbaanlagmacaa.lawMin
