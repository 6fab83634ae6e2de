/- ShrinkRude: the result does not depend on whether the predicate overwrites its argument; a nil predicate is handled as documented. No condition. -/
import Derived.Test.YtmpbaanlagmacaaRows
import Derived.Test.YtmpbaanlagmacaaFr
import Derived.Test.YtmpbaanlagmacaaS16
import Derived.Test.YtmpbaanlagmacaaAp
import Derived.Deep.RegionHeld3
namespace Go.Proofs.Ytmpbaanlagmacaa.lawRude
open Go.ChangeShapes Go.WideShapes Go.ChangeAt Go.RowKit

theorem least_r (k N : Int) (A A2 : Option Addr) (n n2 cap cap2 : Nat) (want l : List Pk) (W w : World) (hk0 : 0 ≤ k) (hk1 : k ≤ 255) (hN0 : 0 ≤ N) (hN1 : N ≤ 255) (hn : want.length = n) (hb : n ≤ 1000) (hn2 : l.length = n2) (hc2 : n2 ≤ cap2) (hb2 : n2 ≤ 1000)
    (hr : Rd W W.heap.size 3 A n (want.flatMap pkc)) (hr2 : Rd w w.heap.size 3 A2 n2 (l.flatMap pkc)) (hw : Below W.heap.size W w) :
    Calls Try.prog 39 #[.iface 85 (.agg #[.int .u8 k, .slice A n cap, .int .u8 N]), .slice A2 n2 cap2] w fun e w' => ∃ A' n' cap', e = .returned (.slice A' n' cap') ∧ (leastP (badP k N want) l).1.length = n' ∧ n' ≤ cap' ∧ Rd w' w'.heap.size 3 A' n' ((leastP (badP k N want) l).1.flatMap pkc) ∧ Below w.heap.size w w' :=
  least_any _ _ _ (badP k N want) A2 n2 cap2 l W.heap.size w hn2 hc2 hb2 hr2 hw.size ((rude_pred k N A n cap want W.heap.size W hk0 hk1 hN0 hN1 hn hb hr (Nat.le_refl _)).below hw)
theorem steps_r (k N : Int) (A A2 : Option Addr) (n n2 cap cap2 : Nat) (want l : List Pk) (W w : World) (hk0 : 0 ≤ k) (hk1 : k ≤ 255) (hN0 : 0 ≤ N) (hN1 : N ≤ 255) (hn : want.length = n) (hb : n ≤ 1000) (hn2 : l.length = n2) (hc2 : n2 ≤ cap2) (hb2 : n2 ≤ 1000)
    (hr : Rd W W.heap.size 3 A n (want.flatMap pkc)) (hr2 : Rd w w.heap.size 3 A2 n2 (l.flatMap pkc)) (hw : Below W.heap.size W w) :
    Calls Try.prog 40 #[.iface 85 (.agg #[.int .u8 k, .slice A n cap, .int .u8 N]), .slice A2 n2 cap2] w fun e w' => e = .returned (.int .i64 (leastP (badP k N want) l).2) ∧ Below w.heap.size w w' :=
  steps_any _ _ _ (badP k N want) A2 n2 cap2 l W.heap.size w hn2 hc2 hb2 hr2 hw.size ((rude_pred k N A n cap want W.heap.size W hk0 hk1 hN0 hN1 hn hb hr (Nat.le_refl _)).below hw)
theorem minimal_r (k N : Int) (A A2 : Option Addr) (n n2 cap cap2 : Nat) (want l : List Pk) (W w : World) (hk0 : 0 ≤ k) (hk1 : k ≤ 255) (hN0 : 0 ≤ N) (hN1 : N ≤ 255) (hn : want.length = n) (hb : n ≤ 1000) (hn2 : l.length = n2) (hc2 : n2 ≤ cap2) (hb2 : n2 ≤ 1000)
    (hr : Rd W W.heap.size 3 A n (want.flatMap pkc)) (hr2 : Rd w w.heap.size 3 A2 n2 (l.flatMap pkc)) (hw : Below W.heap.size W w) :
    Calls Try.prog 42 #[.iface 85 (.agg #[.int .u8 k, .slice A n cap, .int .u8 N]), .slice A2 n2 cap2] w fun e w' => e = .returned (.bool (minimalP (badP k N want) l)) ∧ Below w.heap.size w w' :=
  minimal_any _ _ _ (badP k N want) A2 n2 cap2 l W.heap.size w hn2 hc2 hb2 hr2 hw.size ((rude_pred k N A n cap want W.heap.size W hk0 hk1 hN0 hN1 hn hb hr (Nat.le_refl _)).below hw)

set_option maxHeartbeats 4000000 in
set_option maxRecDepth 100000 in
theorem rude_small (k N : Int) (A A2 : Option Addr) (n n2 cap cap2 : Nat) (want l : List Pk) (W : World) (hk0 : 0 ≤ k) (hk1 : k ≤ 255) (hN0 : 0 ≤ N) (hN1 : N ≤ 255) (hn : want.length = n) (hb : n ≤ 20) (hn2 : l.length = n2) (hc2 : n2 ≤ cap2) (hb2 : n2 ≤ 40)
    (hr : Rd W W.heap.size 3 A n (want.flatMap pkc)) (hr2 : Rd W W.heap.size 3 A2 n2 (l.flatMap pkc)) :
    Calls Try.prog 13 #[.agg #[.int .u8 k, .slice A n cap, .int .u8 N], .slice A2 n2 cap2] W fun e w' => e = .returned (.bool true) ∧ Below W.heap.size W w' := by
  obtain ⟨i0, hi, iz0, iz1, iz2⟩ := info_parts info_pickA
  obtain ⟨bm, hbm⟩ : ∃ b, b = minimalP (badP k N want) l := ⟨_, rfl⟩
  obtain ⟨F, hF⟩ : ∃ b, b = leastP (badP k N want) l := ⟨_, rfl⟩
  have Hm := hide hbm
  have HF := hide hF
  have Hn := hide hn
  have Hn2 := hide hn2
  clear hn hn2 hbm hF
  go_enter Try.func13, Try.ntmps13
  go_wp2_with fail
  refine (great_no k N A A2 n n2 cap cap2 _ hb hb2).mono ?_
  rintro e w1 ⟨rfl, hb1⟩
  obtain ⟨hcc1, hff1⟩ := bcell hb1; have hs1 := hb1.size; (try simp at hs1); have hz1 : W.heap.size < w1.heap.size := (by omega)
  have k0 : w1.cell? ⟨W.heap.size, 0, none⟩ = some (.int .u8 k) := by go_simp
  have k1 : w1.cell? ⟨W.heap.size, 1, none⟩ = some (.slice A n cap) := by go_simp
  have k2 : w1.cell? ⟨W.heap.size, 2, none⟩ = some (.int .u8 N) := by go_simp
  go_wp2_with (at_builtin; (refine wpList_append_rd rfl _ _ 63 rfl w1.heap.size 82 i0 _ 3 24 Try.underlying63 hi iz0 iz1 iz2 rfl (by decide) (.slice (some ⟨w1.heap.size, 0, none⟩) 0 0) 0 [] rfl (World.ownsRow_made w1 #[] 0 (Nat.le_refl _) (Nat.zero_le _) rfl) A2 n2 cap2 _ rfl W.heap.size (hr2.below (by repeat' (first | with_reducible exact Below.refl _ _ | with_reducible assumption | with_reducible refine Below.alloc ?_ ?_ _ | with_reducible refine Below.setCell ?_ ?_ _ | with_reducible refine Below.drew ?_ | with_reducible refine below_drewN ?_ _ | with_reducible refine Below.trans ?_ (Below.mono (by with_reducible assumption) ?_) | omega | (simp <;> omega)))) (pkc_ones _) ?o1 ?o2 (by first | omega | (simp; done) | (simp; omega)) w1.heap.size w1 (by repeat' (first | with_reducible exact Below.refl _ _ | with_reducible assumption | with_reducible refine Below.alloc ?_ ?_ _ | with_reducible refine Below.setCell ?_ ?_ _ | with_reducible refine Below.drew ?_ | with_reducible refine below_drewN ?_ _ | with_reducible refine Below.trans ?_ (Below.mono (by with_reducible assumption) ?_) | omega | (simp <;> omega))) (Nat.le_refl _) ?_))
  case o1 => unfold maxLen; omega
  case o2 => omega
  intro v2 Wa hown2 hb2 hz2
  (try simp at hz2)
  obtain ⟨Ao, co, rfl, hco, _⟩ := own_slice hown2
  obtain ⟨_, _, e4, hro⟩ := Rd.of_own hown2
  injection e4 with e4 _ e5
  subst e4 e5
  have hzA : W.heap.size < Wa.heap.size := by omega
  have hBA : Below W.heap.size W Wa := (by repeat' (first | with_reducible exact Below.refl _ _ | with_reducible assumption | with_reducible refine Below.alloc ?_ ?_ _ | with_reducible refine Below.setCell ?_ ?_ _ | with_reducible refine Below.drew ?_ | with_reducible refine below_drewN ?_ _ | with_reducible refine Below.trans ?_ (Below.mono (by with_reducible assumption) ?_) | omega | (simp <;> omega)))
  obtain ⟨hcA, hfA⟩ := bcell hb2
  have l0 : Wa.cell? ⟨W.heap.size, 0, none⟩ = some (.int .u8 k) := (hcA _ _ hz1).trans k0
  have l1 : Wa.cell? ⟨W.heap.size, 1, none⟩ = some (.slice A n cap) := (hcA _ _ hz1).trans k1
  have l2 : Wa.cell? ⟨W.heap.size, 2, none⟩ = some (.int .u8 N) := (hcA _ _ hz1).trans k2
  have hr2A := (hr2.below hBA).more (Nat.le_of_lt hzA)
  have hzA' : W.heap.size ≤ Wa.heap.size := by omega
  clear hown2 hb2 hb1 hcc1 hff1 k0 k1 k2 hcA hfA hs1 hz1 hz2
  have tok1 : True := trivial
  go_wp2_with fail
  go_region_held3 (fun w' => w'.cell? ⟨W.heap.size, 0, none⟩ = some (.int .u8 k) ∧ w'.cell? ⟨W.heap.size, 1, none⟩ = some (.slice A n cap) ∧ w'.cell? ⟨W.heap.size, 2, none⟩ = some (.int .u8 N))
    (first | exact ⟨by go_simp, by go_simp, by go_simp⟩ | go_keep)
    (first
      | (go_at_call 39; with_reducible refine (least_r k N A A2 n n2 cap cap2 want l W _ hk0 (by omega) hN0 hN1 Hn.out (by omega) Hn2.out hc2 (by omega) hr ((hr2A.below (by repeat' (first | with_reducible exact Below.refl _ _ | with_reducible assumption | with_reducible refine Below.alloc ?_ ?_ _ | with_reducible refine Below.setCell ?_ ?_ _ | with_reducible refine Below.drew ?_ | with_reducible refine below_drewN ?_ _ | with_reducible refine Below.trans ?_ (Below.mono (by with_reducible assumption) ?_) | omega | (simp <;> omega)))).more (by first | omega | (simp; done) | (simp; omega))) (by repeat' (first | with_reducible exact Below.refl _ _ | with_reducible assumption | with_reducible refine Below.alloc ?_ ?_ _ | with_reducible refine Below.setCell ?_ ?_ _ | with_reducible refine Below.drew ?_ | with_reducible refine below_drewN ?_ _ | with_reducible refine Below.trans ?_ (Below.mono (by with_reducible assumption) ?_) | omega | (simp <;> omega)))).mono ?_; rintro e w2 ⟨A3, n3, c3, rfl, hl3, hc3, hr3, hb2'⟩; have hb2 : Below _ _ w2 := (by first | with_reducible exact noDrew hb2' | exact hb2'); clear hb2'; obtain ⟨hcc2, hff2⟩ := bcell hb2; have hs2 := hb2.size; (try simp at hs2); have hz2 : W.heap.size < w2.heap.size := (by omega); have hy2 : Wa.heap.size ≤ w2.heap.size := (by omega))
      | (go_at_call 39; with_reducible refine (least_w k N A Ao n n2 cap co want l W _ hk0 (by omega) hN0 hN1 Hn.out (by omega) Hn2.out hco (by omega) hr ((hro.below (by repeat' (first | with_reducible exact Below.refl _ _ | with_reducible assumption | with_reducible refine Below.alloc ?_ ?_ _ | with_reducible refine Below.setCell ?_ ?_ _ | with_reducible refine Below.drew ?_ | with_reducible refine below_drewN ?_ _ | with_reducible refine Below.trans ?_ (Below.mono (by with_reducible assumption) ?_) | omega | (simp <;> omega)))).more (by first | omega | (simp; done) | (simp; omega))) (by repeat' (first | with_reducible exact Below.refl _ _ | with_reducible assumption | with_reducible refine Below.alloc ?_ ?_ _ | with_reducible refine Below.setCell ?_ ?_ _ | with_reducible refine Below.drew ?_ | with_reducible refine below_drewN ?_ _ | with_reducible refine Below.trans ?_ (Below.mono (by with_reducible assumption) ?_) | omega | (simp <;> omega)))).mono ?_; rintro e w3 ⟨A4, n4, c4, rfl, hl4, hc4, hr4, hb3'⟩; have hb3 : Below _ _ w3 := (by first | with_reducible exact noDrew hb3' | exact hb3'); clear hb3'; obtain ⟨hcc3, hff3⟩ := bcell hb3; have hs3 := hb3.size; (try simp at hs3); have hz3 : W.heap.size < w3.heap.size := (by omega); have hy3 : Wa.heap.size ≤ w3.heap.size := (by omega))
      | (go_at_call 41; with_reducible refine (alike_yes A3 A4 n3 n4 c3 c4 _ _ _ _ hl3 hl4 (by have := leastP_len (badP k N want) l; rw [hl3, Hn2.out] at this; omega) (hr3.below (by repeat' (first | with_reducible exact Below.refl _ _ | with_reducible assumption | with_reducible refine Below.alloc ?_ ?_ _ | with_reducible refine Below.setCell ?_ ?_ _ | with_reducible refine Below.drew ?_ | with_reducible refine below_drewN ?_ _ | with_reducible refine Below.trans ?_ (Below.mono (by with_reducible assumption) ?_) | omega | (simp <;> omega)))) (hr4.below (by repeat' (first | with_reducible exact Below.refl _ _ | with_reducible assumption | with_reducible refine Below.alloc ?_ ?_ _ | with_reducible refine Below.setCell ?_ ?_ _ | with_reducible refine Below.drew ?_ | with_reducible refine below_drewN ?_ _ | with_reducible refine Below.trans ?_ (Below.mono (by with_reducible assumption) ?_) | omega | (simp <;> omega))))).mono ?_; rintro e w4 ⟨rfl, hb4'⟩; have hb4 : Below _ _ w4 := (by first | with_reducible exact noDrew hb4' | exact hb4'); clear hb4'; obtain ⟨hcc4, hff4⟩ := bcell hb4; have hs4 := hb4.size; (try simp at hs4); have hz4 : W.heap.size < w4.heap.size := (by omega); have hy4 : Wa.heap.size ≤ w4.heap.size := (by omega))
      | (go_at_call 41; have _t := tok1; with_reducible refine (alike_yes A2 Ao n2 n2 cap2 co l _ _ _ Hn2.out Hn2.out (by omega) (hr2A.below (by repeat' (first | with_reducible exact Below.refl _ _ | with_reducible assumption | with_reducible refine Below.alloc ?_ ?_ _ | with_reducible refine Below.setCell ?_ ?_ _ | with_reducible refine Below.drew ?_ | with_reducible refine below_drewN ?_ _ | with_reducible refine Below.trans ?_ (Below.mono (by with_reducible assumption) ?_) | omega | (simp <;> omega)))) (hro.below (by repeat' (first | with_reducible exact Below.refl _ _ | with_reducible assumption | with_reducible refine Below.alloc ?_ ?_ _ | with_reducible refine Below.setCell ?_ ?_ _ | with_reducible refine Below.drew ?_ | with_reducible refine below_drewN ?_ _ | with_reducible refine Below.trans ?_ (Below.mono (by with_reducible assumption) ?_) | omega | (simp <;> omega))))).mono ?_; rintro e w5 ⟨rfl, hb5'⟩; clear tok1; have hb5 : Below _ _ w5 := (by first | with_reducible exact noDrew hb5' | exact hb5'); clear hb5'; obtain ⟨hcc5, hff5⟩ := bcell hb5; have hs5 := hb5.size; (try simp at hs5); have hz5 : W.heap.size < w5.heap.size := (by omega); have hy5 : Wa.heap.size ≤ w5.heap.size := (by omega))
      | (go_at_call 42; with_reducible refine (minimal_r k N A A2 n n2 cap cap2 want l W _ hk0 (by omega) hN0 hN1 Hn.out (by omega) Hn2.out hc2 (by omega) hr ((hr2A.below (by repeat' (first | with_reducible exact Below.refl _ _ | with_reducible assumption | with_reducible refine Below.alloc ?_ ?_ _ | with_reducible refine Below.setCell ?_ ?_ _ | with_reducible refine Below.drew ?_ | with_reducible refine below_drewN ?_ _ | with_reducible refine Below.trans ?_ (Below.mono (by with_reducible assumption) ?_) | omega | (simp <;> omega)))).more (by first | omega | (simp; done) | (simp; omega))) (by repeat' (first | with_reducible exact Below.refl _ _ | with_reducible assumption | with_reducible refine Below.alloc ?_ ?_ _ | with_reducible refine Below.setCell ?_ ?_ _ | with_reducible refine Below.drew ?_ | with_reducible refine below_drewN ?_ _ | with_reducible refine Below.trans ?_ (Below.mono (by with_reducible assumption) ?_) | omega | (simp <;> omega)))).mono ?_; rintro e w6 ⟨rfl, hb6'⟩; have hb6 : Below _ _ w6 := (by first | with_reducible exact noDrew hb6' | exact hb6'); clear hb6'; obtain ⟨hcc6, hff6⟩ := bcell hb6; have hs6 := hb6.size; (try simp at hs6); have hz6 : W.heap.size < w6.heap.size := (by omega); have hy6 : Wa.heap.size ≤ w6.heap.size := (by omega))
      | (go_at_call 42; with_reducible refine (minimal_w k N A Ao n n2 cap co want l W _ hk0 (by omega) hN0 hN1 Hn.out (by omega) Hn2.out hco (by omega) hr ((hro.below (by repeat' (first | with_reducible exact Below.refl _ _ | with_reducible assumption | with_reducible refine Below.alloc ?_ ?_ _ | with_reducible refine Below.setCell ?_ ?_ _ | with_reducible refine Below.drew ?_ | with_reducible refine below_drewN ?_ _ | with_reducible refine Below.trans ?_ (Below.mono (by with_reducible assumption) ?_) | omega | (simp <;> omega)))).more (by first | omega | (simp; done) | (simp; omega))) (by repeat' (first | with_reducible exact Below.refl _ _ | with_reducible assumption | with_reducible refine Below.alloc ?_ ?_ _ | with_reducible refine Below.setCell ?_ ?_ _ | with_reducible refine Below.drew ?_ | with_reducible refine below_drewN ?_ _ | with_reducible refine Below.trans ?_ (Below.mono (by with_reducible assumption) ?_) | omega | (simp <;> omega)))).mono ?_; rintro e w7 ⟨rfl, hb7'⟩; have hb7 : Below _ _ w7 := (by first | with_reducible exact noDrew hb7' | exact hb7'); clear hb7'; obtain ⟨hcc7, hff7⟩ := bcell hb7; have hs7 := hb7.size; (try simp at hs7); have hz7 : W.heap.size < w7.heap.size := (by omega); have hy7 : Wa.heap.size ≤ w7.heap.size := (by omega))
      | (go_at_call 40; with_reducible refine (steps_r k N A A2 n n2 cap cap2 want l W _ hk0 (by omega) hN0 hN1 Hn.out (by omega) Hn2.out hc2 (by omega) hr ((hr2A.below (by repeat' (first | with_reducible exact Below.refl _ _ | with_reducible assumption | with_reducible refine Below.alloc ?_ ?_ _ | with_reducible refine Below.setCell ?_ ?_ _ | with_reducible refine Below.drew ?_ | with_reducible refine below_drewN ?_ _ | with_reducible refine Below.trans ?_ (Below.mono (by with_reducible assumption) ?_) | omega | (simp <;> omega)))).more (by first | omega | (simp; done) | (simp; omega))) (by repeat' (first | with_reducible exact Below.refl _ _ | with_reducible assumption | with_reducible refine Below.alloc ?_ ?_ _ | with_reducible refine Below.setCell ?_ ?_ _ | with_reducible refine Below.drew ?_ | with_reducible refine below_drewN ?_ _ | with_reducible refine Below.trans ?_ (Below.mono (by with_reducible assumption) ?_) | omega | (simp <;> omega)))).mono ?_; rintro e w8 ⟨rfl, hb8'⟩; have hb8 : Below _ _ w8 := (by first | with_reducible exact noDrew hb8' | exact hb8'); clear hb8'; obtain ⟨hcc8, hff8⟩ := bcell hb8; have hs8 := hb8.size; (try simp at hs8); have hz8 : W.heap.size < w8.heap.size := (by omega); have hy8 : Wa.heap.size ≤ w8.heap.size := (by omega))
      | (go_at_call 40; with_reducible refine (steps_w k N A Ao n n2 cap co want l W _ hk0 (by omega) hN0 hN1 Hn.out (by omega) Hn2.out hco (by omega) hr ((hro.below (by repeat' (first | with_reducible exact Below.refl _ _ | with_reducible assumption | with_reducible refine Below.alloc ?_ ?_ _ | with_reducible refine Below.setCell ?_ ?_ _ | with_reducible refine Below.drew ?_ | with_reducible refine below_drewN ?_ _ | with_reducible refine Below.trans ?_ (Below.mono (by with_reducible assumption) ?_) | omega | (simp <;> omega)))).more (by first | omega | (simp; done) | (simp; omega))) (by repeat' (first | with_reducible exact Below.refl _ _ | with_reducible assumption | with_reducible refine Below.alloc ?_ ?_ _ | with_reducible refine Below.setCell ?_ ?_ _ | with_reducible refine Below.drew ?_ | with_reducible refine below_drewN ?_ _ | with_reducible refine Below.trans ?_ (Below.mono (by with_reducible assumption) ?_) | omega | (simp <;> omega)))).mono ?_; rintro e w9 ⟨rfl, hb9'⟩; have hb9 : Below _ _ w9 := (by first | with_reducible exact noDrew hb9' | exact hb9'); clear hb9'; obtain ⟨hcc9, hff9⟩ := bcell hb9; have hs9 := hb9.size; (try simp at hs9); have hz9 : W.heap.size < w9.heap.size := (by omega); have hy9 : Wa.heap.size ≤ w9.heap.size := (by omega))
      | (go_at_call 41; with_reducible refine (alike_yes A2 Ao n2 n2 cap2 co l _ _ _ Hn2.out Hn2.out (by omega) (hr2A.below (by repeat' (first | with_reducible exact Below.refl _ _ | with_reducible assumption | with_reducible refine Below.alloc ?_ ?_ _ | with_reducible refine Below.setCell ?_ ?_ _ | with_reducible refine Below.drew ?_ | with_reducible refine below_drewN ?_ _ | with_reducible refine Below.trans ?_ (Below.mono (by with_reducible assumption) ?_) | omega | (simp <;> omega)))) (hro.below (by repeat' (first | with_reducible exact Below.refl _ _ | with_reducible assumption | with_reducible refine Below.alloc ?_ ?_ _ | with_reducible refine Below.setCell ?_ ?_ _ | with_reducible refine Below.drew ?_ | with_reducible refine below_drewN ?_ _ | with_reducible refine Below.trans ?_ (Below.mono (by with_reducible assumption) ?_) | omega | (simp <;> omega))))).mono ?_; rintro e w10 ⟨rfl, hb10'⟩; have hb10 : Below _ _ w10 := (by first | with_reducible exact noDrew hb10' | exact hb10'); clear hb10'; obtain ⟨hcc10, hff10⟩ := bcell hb10; have hs10 := hb10.size; (try simp at hs10); have hz10 : W.heap.size < w10.heap.size := (by omega); have hy10 : Wa.heap.size ≤ w10.heap.size := (by omega)))
  have hBa : Below Wa.heap.size Wa w10 := (by repeat' (first | with_reducible exact Below.refl _ _ | with_reducible assumption | with_reducible refine Below.alloc ?_ ?_ _ | with_reducible refine Below.setCell ?_ ?_ _ | with_reducible refine Below.drew ?_ | with_reducible refine below_drewN ?_ _ | with_reducible refine Below.trans ?_ (Below.mono (by with_reducible assumption) ?_) | omega | (simp <;> omega)))
  have hBx : Below W.heap.size W w10 := hBA.trans (hBa.mono (by omega))
  have hr2x : Rd w10 w10.heap.size 3 A2 n2 (l.flatMap pkc) := (hr2.below hBx).more (by omega)
  have hrox : Rd w10 w10.heap.size 3 Ao n2 (l.flatMap pkc) := (hro.below hBa).more (by omega)
  clear hb2 hb3 hb4 hb5 hb6 hb7 hb8 hb9 hb10 hcc2 hcc3 hcc4 hcc5 hcc6 hcc7 hcc8 hcc9 hcc10 hff2 hff3 hff4 hff5 hff6 hff7 hff8 hff9 hff10
  go_wp2_with fail
  refine (least_nil A2 n2 cap2 _).mono ?_
  rintro e w11 ⟨rfl, rfl⟩
  go_wp2_with fail
  refine (alike_yes A2 Ao n2 n2 cap2 co l _ _ _ Hn2.out Hn2.out (by omega) hr2x hrox).mono ?_
  rintro e w12 ⟨rfl, hb12⟩
  obtain ⟨hcc12, hff12⟩ := bcell hb12; have hs12 := hb12.size; (try simp at hs12); have hz12 : W.heap.size < w12.heap.size := (by omega)
  go_wp2_with fail
  refine (minimal_nil A2 n2 cap2 _).mono ?_
  rintro e w13 ⟨rfl, rfl⟩
  go_wp2_with fail
  refine (steps_nil A2 n2 cap2 _).mono ?_
  rintro e w14 ⟨rfl, rfl⟩
  go_wp2_with fail
  refine (awake60_any _).mono ?_
  rintro e w15 ⟨rfl, hb15⟩
  go_wp2
  go_ret
  exact ⟨rfl, (by repeat' (first | with_reducible exact Below.refl _ _ | with_reducible assumption | with_reducible refine Below.alloc ?_ ?_ _ | with_reducible refine Below.setCell ?_ ?_ _ | with_reducible refine Below.drew ?_ | with_reducible refine below_drewN ?_ _ | with_reducible refine Below.trans ?_ (Below.mono (by with_reducible assumption) ?_) | omega | (simp <;> omega)))⟩

theorem rude_great (k N : Int) (A A2 : Option Addr) (n n2 cap cap2 : Nat) (W : World) (h1 : n ≤ maxLen) (h2 : n2 ≤ maxLen) (h : 20 < n ∨ 40 < n2) :
    Calls Try.prog 13 #[.agg #[.int .u8 k, .slice A n cap, .int .u8 N], .slice A2 n2 cap2] W fun e w' => e = .returned (.bool true) ∧ Below W.heap.size W w' := by
  go_enter Try.func13, Try.ntmps13
  go_wp2_with fail
  refine (great_yes k N A A2 n n2 cap cap2 _ h1 h2 h).mono ?_
  rintro e w1 ⟨rfl, hb1⟩
  have hs1 := hb1.size
  (try simp at hs1)
  go_wp2_with fail
  refine (awake60_any _).mono ?_
  rintro e w2 ⟨rfl, hb2⟩
  go_wp2
  go_ret
  exact ⟨rfl, (by repeat' (first | with_reducible exact Below.refl _ _ | with_reducible assumption | with_reducible refine Below.alloc ?_ ?_ _ | with_reducible refine Below.setCell ?_ ?_ _ | with_reducible refine Below.drew ?_ | with_reducible refine below_drewN ?_ _ | with_reducible refine Below.trans ?_ (Below.mono (by with_reducible assumption) ?_) | omega | (simp <;> omega)))⟩

theorem own : ownKnob Try.prog.godebug = none := by kernel_rfl

set_option maxRecDepth 100000 in
theorem walk : LawWalk Try.prog 13 #[65, 63] := by
  intro H enc W base args ds p hval hA hlt
  obtain ⟨v0, v1, d0, d1, p0, p1, rfl, rfl, rfl, h0, h1⟩ := trodAll_two hA
  obtain ⟨k, N, A, n, cap, want, rfl, k0, k1, N0, N1, hc, hm, hn, hr⟩ := rd_look (hval 0 65 v0 rfl rfl) h0
  obtain ⟨A2, n2, cap2, l, rfl, hc2, hm2, hn2, hr2⟩ := rd_picks (hval 1 63 v1 rfl rfl) h1
  by_cases h : n ≤ 20 ∧ n2 ≤ 40
  · exact rude_small k N A A2 n n2 cap cap2 want l W k0 k1 N0 N1 hn h.1 hn2 hc2 h.2 hr hr2
  · exact rude_great k N A A2 n n2 cap cap2 W hm hm2 (by omega)

set_option maxRecDepth 100000 in
theorem lifted (os : Os) (started : os.Started) (H : Type) (enc : TypeId × Value → H) :
    ReturnsInHanded {} Try.checked os 13 .any (Rows.shrinkRudeSpec.pre6 enc Try.prog Try.f13 Rows.shrinkRudeRow.domain false) (Rows.shrinkRudeSpec.post enc Try.prog Try.f13 false true false false) :=
  law_lifted (C := Try.checked) started own (by kernel_rfl) (by kernel_rfl) Try.func13 (by kernel_rfl) Try.underlying4 (by kernel_rfl)
    ⟨rfl, fun H ds h => by match ds, h with | [d1, d2], _ => exact ⟨rfl, rfl, rfl⟩⟩
    (ChangeSpec.witness6 (enc := enc) (C := Try.checked) false ⟨#[], #[.agg #[.int .u8 0, .slice none 0 0, .int .u8 0], .slice none 0 0], []⟩ 8 (by kernel_rfl) (by kernel_rfl) (by kernel_rfl) (by kernel_rfl)) (by rw [Try.params13]; exact walk)

theorem over : Rows.shrinkRudeRow.holds Try.pinned (OpenSpec.ofChange Rows.shrinkRudeSpec) :=
  OpenClaim.holds_of_wide 13 Try.f13 rfl rfl rfl rfl rfl rfl rfl ⟨rfl, rfl, rfl, rfl, rfl⟩ rfl rfl rfl rfl rfl (by kernel_rfl) Try.func13 (by kernel_rfl)
    (of_decide_eq_true (by kernel_rfl)) (by unfold Func.isWrapper; first | (rw [if_pos (by decide +kernel)]; kernel_rfl) | (rw [if_neg (by decide +kernel)]; exact ⟨rfl, rfl⟩))
    (fun os started H enc _ => lifted os started H enc)

theorem proved : Rows.ShrinkRudeSaid := over
end Go.Proofs.Ytmpbaanlagmacaa.lawRude
