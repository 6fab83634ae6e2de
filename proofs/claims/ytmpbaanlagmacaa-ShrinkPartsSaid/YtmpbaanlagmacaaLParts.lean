/- ShrinkParts: the shrunk schedule is a minimal subsequence for which the predicate is true, and shrinks to itself; a schedule for which the predicate is false is unchanged. No condition. -/
import Derived.Test.YtmpbaanlagmacaaRows
import Derived.Test.YtmpbaanlagmacaaFr
import Derived.Test.YtmpbaanlagmacaaS12
namespace Go.Proofs.Ytmpbaanlagmacaa.lawParts
open Go.ChangeShapes Go.WideShapes Go.ChangeAt Go.RowKit

/-- The law's box of the predicate. -/
def LookB (B : Nat) (k N : Int) (A : Option Addr) (n cap : Nat) (w : World) : Prop :=
  w.cell? ⟨B, 0, none⟩ = some (.int .u8 k) ∧ w.cell? ⟨B, 1, none⟩ = some (.slice A n cap) ∧ w.cell? ⟨B, 2, none⟩ = some (.int .u8 N)

set_option maxHeartbeats 2000000 in
set_option maxRecDepth 100000 in
theorem parts_small (k N : Int) (A A2 : Option Addr) (n n2 cap cap2 : Nat) (want l : List Pk) (W : World) (hk0 : 0 ≤ k) (hk1 : k ≤ 255) (hN0 : 0 ≤ N) (hN1 : N ≤ 255) (hn : want.length = n) (hb : n ≤ 20) (hn2 : l.length = n2) (hc2 : n2 ≤ cap2) (hb2 : n2 ≤ 40)
    (hr : Rd W W.heap.size 3 A n (want.flatMap pkc)) (hr2 : Rd W W.heap.size 3 A2 n2 (l.flatMap pkc)) :
    Calls Try.prog 11 #[.agg #[.int .u8 k, .slice A n cap, .int .u8 N], .slice A2 n2 cap2] W fun e w' => e = .returned (.bool true) ∧ Below W.heap.size W w' := by
  obtain ⟨P, hP⟩ : ∃ P, P = badP k N want := ⟨_, rfl⟩
  obtain ⟨s, hs⟩ : ∃ s, s = (leastP P l).1 := ⟨_, rfl⟩
  obtain ⟨b, hbd⟩ : ∃ b, b = P l := ⟨_, rfl⟩
  have Hn := hide hn
  have Hn2 := hide hn2
  have Hs := hide hs
  have HP := hide hP
  have Hb := hide hbd
  clear hn hn2 hs hbd hP
  go_enter Try.func11, Try.ntmps11
  go_wp2_with fail
  refine (great_no k N A A2 n n2 cap cap2 _ hb hb2).mono ?_
  rintro e w1 ⟨rfl, hb1⟩
  obtain ⟨hcc1, hff1⟩ := bcell hb1; have hs1 := hb1.size; (try simp at hs1); have hz1 : W.heap.size < w1.heap.size := (by omega)
  go_wp2_with fail
  refine (least_w k N A A2 n n2 cap cap2 want l W _ hk0 (by omega) hN0 hN1 Hn.out (by omega) Hn2.out hc2 (by omega) hr ((hr2.below (by repeat' (first | with_reducible exact Below.refl _ _ | with_reducible assumption | with_reducible refine Below.alloc ?_ ?_ _ | with_reducible refine Below.setCell ?_ ?_ _ | with_reducible refine Below.drew ?_ | with_reducible refine below_drewN ?_ _ | with_reducible refine Below.trans ?_ (Below.mono (by with_reducible assumption) ?_) | omega | (simp <;> omega)))).more (by first | omega | (simp; done) | (simp; omega))) (by repeat' (first | with_reducible exact Below.refl _ _ | with_reducible assumption | with_reducible refine Below.alloc ?_ ?_ _ | with_reducible refine Below.setCell ?_ ?_ _ | with_reducible refine Below.drew ?_ | with_reducible refine below_drewN ?_ _ | with_reducible refine Below.trans ?_ (Below.mono (by with_reducible assumption) ?_) | omega | (simp <;> omega)))).mono ?_
  rintro e w2 ⟨A', n', cap', rfl, hl', hc', hrd, hb2⟩
  obtain ⟨hcc2, hff2⟩ := bcell hb2; have hs2 := hb2.size; (try simp at hs2); have hz2 : W.heap.size < w2.heap.size := (by omega)
  rw [← HP.out, ← Hs.out] at hl' hrd
  go_wp2_with fail
  refine (lookbad_w k N A A2 n n2 cap cap2 want l W _ hk0 (by omega) hN0 hN1 Hn.out (by omega) Hn2.out (by omega) hr ((hr2.below (by repeat' (first | with_reducible exact Below.refl _ _ | with_reducible assumption | with_reducible refine Below.alloc ?_ ?_ _ | with_reducible refine Below.setCell ?_ ?_ _ | with_reducible refine Below.drew ?_ | with_reducible refine below_drewN ?_ _ | with_reducible refine Below.trans ?_ (Below.mono (by with_reducible assumption) ?_) | omega | (simp <;> omega)))).more (by first | omega | (simp; done) | (simp; omega))) (by repeat' (first | with_reducible exact Below.refl _ _ | with_reducible assumption | with_reducible refine Below.alloc ?_ ?_ _ | with_reducible refine Below.setCell ?_ ?_ _ | with_reducible refine Below.drew ?_ | with_reducible refine below_drewN ?_ _ | with_reducible refine Below.trans ?_ (Below.mono (by with_reducible assumption) ?_) | omega | (simp <;> omega)))).mono ?_
  rintro e w4 ⟨rfl, hb4⟩
  obtain ⟨hcc4, hff4⟩ := bcell hb4; have hs4 := hb4.size; (try simp at hs4); have hz4 : W.heap.size < w4.heap.size := (by omega)
  rw [← HP.out, ← Hb.out]
  have hlc : n' ≤ n2 := by rw [← hl', Hs.out, ← Hn2.out]; exact leastP_len _ _
  cases b with
  | false =>
    have hFF : leastP P l = (l, 1) := leastP_false _ _ Hb.out.symm
    have hsl : s = l := by rw [Hs.out, hFF]
    subst hsl
    have HFF := hide hFF
    clear hFF
    go_wp2_with fail
    refine (alike_yes A' A2 n' n2 cap' cap2 s _ _ _ hl' Hn2.out (by omega) (hrd.below (by repeat' (first | with_reducible exact Below.refl _ _ | with_reducible assumption | with_reducible refine Below.alloc ?_ ?_ _ | with_reducible refine Below.setCell ?_ ?_ _ | with_reducible refine Below.drew ?_ | with_reducible refine below_drewN ?_ _ | with_reducible refine Below.trans ?_ (Below.mono (by with_reducible assumption) ?_) | omega | (simp <;> omega)))) (hr2.below (by repeat' (first | with_reducible exact Below.refl _ _ | with_reducible assumption | with_reducible refine Below.alloc ?_ ?_ _ | with_reducible refine Below.setCell ?_ ?_ _ | with_reducible refine Below.drew ?_ | with_reducible refine below_drewN ?_ _ | with_reducible refine Below.trans ?_ (Below.mono (by with_reducible assumption) ?_) | omega | (simp <;> omega))))).mono ?_
    rintro e w5 ⟨rfl, hb5⟩
    obtain ⟨hcc5, hff5⟩ := bcell hb5; have hs5 := hb5.size; (try simp at hs5); have hz5 : W.heap.size < w5.heap.size := (by omega)
    go_wp2_with fail
    refine (minimal_w k N A A2 n n2 cap cap2 want s W _ hk0 (by omega) hN0 hN1 Hn.out (by omega) Hn2.out hc2 (by omega) hr ((hr2.below (by repeat' (first | with_reducible exact Below.refl _ _ | with_reducible assumption | with_reducible refine Below.alloc ?_ ?_ _ | with_reducible refine Below.setCell ?_ ?_ _ | with_reducible refine Below.drew ?_ | with_reducible refine below_drewN ?_ _ | with_reducible refine Below.trans ?_ (Below.mono (by with_reducible assumption) ?_) | omega | (simp <;> omega)))).more (by first | omega | (simp; done) | (simp; omega))) (by repeat' (first | with_reducible exact Below.refl _ _ | with_reducible assumption | with_reducible refine Below.alloc ?_ ?_ _ | with_reducible refine Below.setCell ?_ ?_ _ | with_reducible refine Below.drew ?_ | with_reducible refine below_drewN ?_ _ | with_reducible refine Below.trans ?_ (Below.mono (by with_reducible assumption) ?_) | omega | (simp <;> omega)))).mono ?_
    rintro e w6 ⟨rfl, hb6⟩
    obtain ⟨hcc6, hff6⟩ := bcell hb6; have hs6 := hb6.size; (try simp at hs6); have hz6 : W.heap.size < w6.heap.size := (by omega)
    rw [← HP.out, show minimalP P s = false by unfold minimalP; rw [← Hb.out]; rfl]
    go_wp2_with fail
    refine (steps_w k N A A2 n n2 cap cap2 want s W _ hk0 (by omega) hN0 hN1 Hn.out (by omega) Hn2.out hc2 (by omega) hr ((hr2.below (by repeat' (first | with_reducible exact Below.refl _ _ | with_reducible assumption | with_reducible refine Below.alloc ?_ ?_ _ | with_reducible refine Below.setCell ?_ ?_ _ | with_reducible refine Below.drew ?_ | with_reducible refine below_drewN ?_ _ | with_reducible refine Below.trans ?_ (Below.mono (by with_reducible assumption) ?_) | omega | (simp <;> omega)))).more (by first | omega | (simp; done) | (simp; omega))) (by repeat' (first | with_reducible exact Below.refl _ _ | with_reducible assumption | with_reducible refine Below.alloc ?_ ?_ _ | with_reducible refine Below.setCell ?_ ?_ _ | with_reducible refine Below.drew ?_ | with_reducible refine below_drewN ?_ _ | with_reducible refine Below.trans ?_ (Below.mono (by with_reducible assumption) ?_) | omega | (simp <;> omega)))).mono ?_
    rintro e w7 ⟨rfl, hb7⟩
    obtain ⟨hcc7, hff7⟩ := bcell hb7; have hs7 := hb7.size; (try simp at hs7); have hz7 : W.heap.size < w7.heap.size := (by omega)
    rw [← HP.out, HFF.out]
    go_wp2_with fail
    refine (awake60_any _).mono ?_
    rintro e w8 ⟨rfl, hb8⟩
    go_wp2
    go_ret
    exact ⟨rfl, (by repeat' (first | with_reducible exact Below.refl _ _ | with_reducible assumption | with_reducible refine Below.alloc ?_ ?_ _ | with_reducible refine Below.setCell ?_ ?_ _ | with_reducible refine Below.drew ?_ | with_reducible refine below_drewN ?_ _ | with_reducible refine Below.trans ?_ (Below.mono (by with_reducible assumption) ?_) | omega | (simp <;> omega)))⟩
  | true =>
    have hB0 : Below W.heap.size W w4 := (by repeat' (first | with_reducible exact Below.refl _ _ | with_reducible assumption | with_reducible refine Below.alloc ?_ ?_ _ | with_reducible refine Below.setCell ?_ ?_ _ | with_reducible refine Below.drew ?_ | with_reducible refine below_drewN ?_ _ | with_reducible refine Below.trans ?_ (Below.mono (by with_reducible assumption) ?_) | omega | (simp <;> omega)))
    have hLB : LookB W.heap.size k N A n cap w4 := by unfold LookB; refine ⟨?_, ?_, ?_⟩ <;> go_simp
    go_wp2_with fail
    go_loopw [6, 43] (fun c i wr => ∃ (j q : Nat), j ≤ n2 ∧ i = .int .i64 j ∧ c = .int .i64 q ∧ q ≤ n' ∧ Hid (q = grd s 0 (l.take j)) ∧ LookB W.heap.size k N A n cap wr ∧ Below w4.heap.size w4 wr)
      (fun _ i _ => n2 - (intOf i).toNat)
    case atStart => exact ⟨0, 0, by omega, rfl, rfl, by omega, rfl, hLB, Below.refl _ _⟩
    case round =>
      obtain ⟨j, q, hj, rfl, rfl, hq, Hq, ⟨c0, c1, c2⟩, hB⟩ := hrel
      by_cases hlt : j < n2
      · have hz1 : l[j]? = some (l[j]'(by rw [Hn2.out]; omega)) := List.getElem?_eq_getElem _
        obtain ⟨b, off, rfl, hbb, hcA⟩ := hr2.elem pkc_len hlt hz1
        generalize (l[j]'(by rw [Hn2.out]; omega)) = x at hcA hz1
        obtain ⟨x0, x1, x2⟩ := x
        have hBW : Below W.heap.size W wr := hB0.trans (hB.mono (by omega))
        have hLB2 : LookB W.heap.size k N A n cap wr := ⟨c0, c1, c2⟩
        have g0 : wr.cell? ⟨b, off + j * 3, none⟩ = some (.int .i64 x0) := (hBW.cell (p := ⟨b, off + j * 3, none⟩) hbb).trans (hcA 0 _ rfl)
        have g1 : wr.cell? ⟨b, off + j * 3 + 1, none⟩ = some (.int .i64 x1) := (hBW.cell (p := ⟨b, off + j * 3 + 1, none⟩) hbb).trans (hcA 1 _ rfl)
        have g2 : wr.cell? ⟨b, off + j * 3 + 2, none⟩ = some (.int .i64 x2) := (hBW.cell (p := ⟨b, off + j * 3 + 2, none⟩) hbb).trans (hcA 2 _ rfl)
        have Hnx : Hid (grd s 0 (l.take (j + 1)) = if s[q]? = some (x0, x1, x2) then q + 1 else q) := by
          unfold Hid
          rw [take_snoc l j _ hz1, grd_snoc, ← Hq.out]
        have hki : (0 : Int) ≤ (j : Int) := by omega
        have hkj : (j : Int) < (n2 : Int) := by omega
        have hszr := hBW.size
        have hszq := hB.size
        have hbw : b < wr.heap.size := by omega
        have hWw : W.heap.size < wr.heap.size := cell_lt c0
        have hgd := guardA
        clear hz1 hcA hr2
        by_cases hqn : q < n'
        · have hz2 : s[q]? = some (s[q]'(by omega)) := List.getElem?_eq_getElem (by omega)
          obtain ⟨b', off', rfl, hbb', hcB⟩ := hrd.elem pkc_len hqn hz2
          generalize (s[q]'(by omega)) = y at hcB hz2
          obtain ⟨y0, y1, y2⟩ := y
          have hw24 : Below w2.heap.size w2 wr := hb4.trans (hB.mono (by omega))
          have f0 : wr.cell? ⟨b', off' + q * 3, none⟩ = some (.int .i64 y0) := (hw24.cell (p := ⟨b', off' + q * 3, none⟩) hbb').trans (hcB 0 _ rfl)
          have f1 : wr.cell? ⟨b', off' + q * 3 + 1, none⟩ = some (.int .i64 y1) := (hw24.cell (p := ⟨b', off' + q * 3 + 1, none⟩) hbb').trans (hcB 1 _ rfl)
          have f2 : wr.cell? ⟨b', off' + q * 3 + 2, none⟩ = some (.int .i64 y2) := (hw24.cell (p := ⟨b', off' + q * 3 + 2, none⟩) hbb').trans (hcB 2 _ rfl)
          have hqi : (0 : Int) ≤ (q : Int) := by omega
          have hqj : (q : Int) < (n' : Int) := by omega
          have hzz := hw24.size
          have hbw' : b' < wr.heap.size := by omega
          rw [hz2] at Hnx
          clear hz2 hcB hrd
          by_cases hxy : (y0, y1, y2) = (x0, x1, x2)
          · have he : ∀ W, (Op.equalIn 10000 82 (.agg #[.int .i64 y0, .int .i64 y1, .int .i64 y2]) (.agg #[.int .i64 x0, .int .i64 x1, .int .i64 x2])).run Try.prog W = .ok true W := fun W => by
              rw [show (true : Bool) = ((y0, y1, y2) == (x0, x1, x2)) by rw [hxy]; simp]
              exact equalInA (y0, y1, y2) (x0, x1, x2) W
            rw [hxy] at Hnx
            clear hxy
            go_wp2_with fail
            go_quiet (fail)
            go_wp2_with fail
            exact ⟨⟨j + 1, q + 1, by omega, by go_num, by go_num, by omega, by unfold Hid; rw [Hnx.out]; simp, ⟨by go_simp, by go_simp, by go_simp⟩, (by repeat' (first | with_reducible exact Below.refl _ _ | with_reducible assumption | with_reducible refine Below.alloc ?_ ?_ _ | with_reducible refine Below.setCell ?_ ?_ _ | with_reducible refine Below.drew ?_ | with_reducible refine below_drewN ?_ _ | with_reducible refine Below.trans ?_ (Below.mono (by with_reducible assumption) ?_) | omega | (simp <;> omega)))⟩, by simp [intOf]; omega⟩
          · have he : ∀ W, (Op.equalIn 10000 82 (.agg #[.int .i64 y0, .int .i64 y1, .int .i64 y2]) (.agg #[.int .i64 x0, .int .i64 x1, .int .i64 x2])).run Try.prog W = .ok false W := fun W => by
              rw [show (false : Bool) = ((y0, y1, y2) == (x0, x1, x2)) by symm; simpa using hxy]
              exact equalInA (y0, y1, y2) (x0, x1, x2) W
            have Hn3 : Hid (grd s 0 (l.take (j + 1)) = q) := by
              unfold Hid
              rw [Hnx.out, if_neg]
              intro e
              injection e with e
              exact hxy e
            clear hxy
            go_wp2_with fail
            go_quiet (fail)
            go_wp2_with fail
            exact ⟨⟨j + 1, q, by omega, by go_num, rfl, by omega, by unfold Hid; rw [Hn3.out], ⟨by go_simp, by go_simp, by go_simp⟩, (by repeat' (first | with_reducible exact Below.refl _ _ | with_reducible assumption | with_reducible refine Below.alloc ?_ ?_ _ | with_reducible refine Below.setCell ?_ ?_ _ | with_reducible refine Below.drew ?_ | with_reducible refine below_drewN ?_ _ | with_reducible refine Below.trans ?_ (Below.mono (by with_reducible assumption) ?_) | omega | (simp <;> omega)))⟩, by simp [intOf]; omega⟩
        · have Hn3 : Hid (grd s 0 (l.take (j + 1)) = q) := by
            unfold Hid
            rw [Hnx.out, if_neg]
            rw [List.getElem?_eq_none (by omega)]
            simp
          have hqd : decide ((q : Int) < (n' : Int)) = false := by simp; omega
          clear hrd
          go_wp2_with fail
          go_quiet (fail)
          go_wp2_with fail
          exact ⟨⟨j + 1, q, by omega, by go_num, rfl, by omega, by unfold Hid; rw [Hn3.out], ⟨by go_simp, by go_simp, by go_simp⟩, (by repeat' (first | with_reducible exact Below.refl _ _ | with_reducible assumption | with_reducible refine Below.alloc ?_ ?_ _ | with_reducible refine Below.setCell ?_ ?_ _ | with_reducible refine Below.drew ?_ | with_reducible refine below_drewN ?_ _ | with_reducible refine Below.trans ?_ (Below.mono (by with_reducible assumption) ?_) | omega | (simp <;> omega)))⟩, by simp [intOf]; omega⟩
      · obtain rfl : j = n2 := by omega
        have hq2 : q = n' := by
          have h1 := Hq.out
          rw [List.take_of_length_le (by rw [Hn2.out]; omega), Hs.out, grd_all (leastP_sub P l), ← Hs.out, hl'] at h1
          exact h1
        obtain ⟨wo, rfl⟩ : ∃ wo : World, wo = wr := ⟨_, rfl⟩
        have hBW : Below W.heap.size W wo := hB0.trans (hB.mono (by omega))
        have hw24 : Below w2.heap.size w2 wo := hb4.trans (hB.mono (by omega))
        have hrd2 := hrd.below hw24
        have hso := hBW.size
        have hs2o := hw24.size
        have hPs : P s = true := by rw [Hs.out]; exact ((minimalP_iff P _).1 (leastP_minimal P l Hb.out.symm)).1
        have hMs : minimalP P s = true := by rw [Hs.out]; exact leastP_minimal P l Hb.out.symm
        have hSs : (leastP P s).1 = s := by rw [Hs.out]; exact leastP_self P l Hb.out.symm
        have HPs := hide hPs
        have HMs := hide hMs
        have HSs := hide hSs
        subst hq2
        have hbo : W.heap.size < wo.heap.size := by have := cell_lt c0; exact this
        clear hrd hB Hq hPs hMs hSs hB0
        go_wp2_with fail
        refine (lookbad_w k N A A' n q cap cap' want s W _ hk0 (by omega) hN0 hN1 Hn.out (by omega) hl' (by omega) hr (hrd2.more (by omega)) (by repeat' (first | with_reducible exact Below.refl _ _ | with_reducible assumption | with_reducible refine Below.alloc ?_ ?_ _ | with_reducible refine Below.setCell ?_ ?_ _ | with_reducible refine Below.drew ?_ | with_reducible refine below_drewN ?_ _ | with_reducible refine Below.trans ?_ (Below.mono (by with_reducible assumption) ?_) | omega | (simp <;> omega)))).mono ?_
        rintro e w5 ⟨rfl, hb5⟩
        obtain ⟨hcc5, hff5⟩ := bcell hb5; have hs5 := hb5.size; (try simp at hs5); have hz5 : W.heap.size < w5.heap.size := (by omega)
        rw [← HP.out, HPs.out]
        go_wp2_with fail
        refine (minimal_w k N A A' n q cap cap' want s W _ hk0 (by omega) hN0 hN1 Hn.out (by omega) hl' hc' (by omega) hr ((hrd2.below (hb5.mono (by first | omega | (simp; done) | (simp; omega)))).more (by first | omega | (simp; done) | (simp; omega))) (by repeat' (first | with_reducible exact Below.refl _ _ | with_reducible assumption | with_reducible refine Below.alloc ?_ ?_ _ | with_reducible refine Below.setCell ?_ ?_ _ | with_reducible refine Below.drew ?_ | with_reducible refine below_drewN ?_ _ | with_reducible refine Below.trans ?_ (Below.mono (by with_reducible assumption) ?_) | omega | (simp <;> omega)))).mono ?_
        rintro e w6 ⟨rfl, hb6⟩
        obtain ⟨hcc6, hff6⟩ := bcell hb6; have hs6 := hb6.size; (try simp at hs6); have hz6 : W.heap.size < w6.heap.size := (by omega)
        rw [← HP.out, HMs.out]
        go_wp2_with fail
        refine (least_w k N A A' n q cap cap' want s W _ hk0 (by omega) hN0 hN1 Hn.out (by omega) hl' hc' (by omega) hr (((hrd2.below (hb5.mono (by first | omega | (simp; done) | (simp; omega)))).below (hb6.mono (by first | omega | (simp; done) | (simp; omega)))).more (by first | omega | (simp; done) | (simp; omega))) (by repeat' (first | with_reducible exact Below.refl _ _ | with_reducible assumption | with_reducible refine Below.alloc ?_ ?_ _ | with_reducible refine Below.setCell ?_ ?_ _ | with_reducible refine Below.drew ?_ | with_reducible refine below_drewN ?_ _ | with_reducible refine Below.trans ?_ (Below.mono (by with_reducible assumption) ?_) | omega | (simp <;> omega)))).mono ?_
        rintro e w7 ⟨A3, n3, cap3, rfl, hl3, hc3, hrd3, hb7⟩
        obtain ⟨hcc7, hff7⟩ := bcell hb7; have hs7 := hb7.size; (try simp at hs7); have hz7 : W.heap.size < w7.heap.size := (by omega)
        rw [← HP.out, HSs.out] at hl3 hrd3
        go_wp2_with fail
        refine (alike_yes A3 A' n3 q cap3 cap' s _ _ _ hl3 hl' (by omega) hrd3 ((((hrd2.below (hb5.mono (by first | omega | (simp; done) | (simp; omega)))).below (hb6.mono (by first | omega | (simp; done) | (simp; omega)))).below (hb7.mono (by first | omega | (simp; done) | (simp; omega)))).more (by first | omega | (simp; done) | (simp; omega)))).mono ?_
        rintro e w8 ⟨rfl, hb8⟩
        obtain ⟨hcc8, hff8⟩ := bcell hb8; have hs8 := hb8.size; (try simp at hs8); have hz8 : W.heap.size < w8.heap.size := (by omega)
        go_wp2_with fail
        refine (awake60_any _).mono ?_
        rintro e w9 ⟨rfl, hb9⟩
        go_wp2
        go_ret
        exact ⟨rfl, (by repeat' (first | with_reducible exact Below.refl _ _ | with_reducible assumption | with_reducible refine Below.alloc ?_ ?_ _ | with_reducible refine Below.setCell ?_ ?_ _ | with_reducible refine Below.drew ?_ | with_reducible refine below_drewN ?_ _ | with_reducible refine Below.trans ?_ (Below.mono (by with_reducible assumption) ?_) | omega | (simp <;> omega)))⟩

theorem parts_great (k N : Int) (A A2 : Option Addr) (n n2 cap cap2 : Nat) (W : World) (h1 : n ≤ maxLen) (h2 : n2 ≤ maxLen) (h : 20 < n ∨ 40 < n2) :
    Calls Try.prog 11 #[.agg #[.int .u8 k, .slice A n cap, .int .u8 N], .slice A2 n2 cap2] W fun e w' => e = .returned (.bool true) ∧ Below W.heap.size W w' := by
  go_enter Try.func11, Try.ntmps11
  go_wp2_with fail
  refine (great_yes k N A A2 n n2 cap cap2 _ h1 h2 h).mono ?_
  rintro e w1 ⟨rfl, hb1⟩
  have hs1 := hb1.size
  (try simp at hs1)
  go_wp2_with fail
  refine (awake60_any _).mono ?_
  rintro e w2 ⟨rfl, hb2⟩
  go_wp2
  go_ret
  exact ⟨rfl, (by repeat' (first | with_reducible exact Below.refl _ _ | with_reducible assumption | with_reducible refine Below.alloc ?_ ?_ _ | with_reducible refine Below.setCell ?_ ?_ _ | with_reducible refine Below.drew ?_ | with_reducible refine below_drewN ?_ _ | with_reducible refine Below.trans ?_ (Below.mono (by with_reducible assumption) ?_) | omega | (simp <;> omega)))⟩

theorem own : ownKnob Try.prog.godebug = none := by kernel_rfl

set_option maxRecDepth 100000 in
theorem walk : LawWalk Try.prog 11 #[65, 63] := by
  intro H enc W base args ds p hval hA hlt
  obtain ⟨v0, v1, d0, d1, p0, p1, rfl, rfl, rfl, h0, h1⟩ := trodAll_two hA
  obtain ⟨k, N, A, n, cap, want, rfl, k0, k1, N0, N1, hc, hm, hn, hr⟩ := rd_look (hval 0 65 v0 rfl rfl) h0
  obtain ⟨A2, n2, cap2, l, rfl, hc2, hm2, hn2, hr2⟩ := rd_picks (hval 1 63 v1 rfl rfl) h1
  by_cases h : n ≤ 20 ∧ n2 ≤ 40
  · exact parts_small k N A A2 n n2 cap cap2 want l W k0 k1 N0 N1 hn h.1 hn2 hc2 h.2 hr hr2
  · exact parts_great k N A A2 n n2 cap cap2 W hm hm2 (by omega)

set_option maxRecDepth 100000 in
theorem lifted (os : Os) (started : os.Started) (H : Type) (enc : TypeId × Value → H) :
    ReturnsInHanded {} Try.checked os 11 .any (Rows.shrinkPartsSpec.pre6 enc Try.prog Try.f11 Rows.shrinkPartsRow.domain false) (Rows.shrinkPartsSpec.post enc Try.prog Try.f11 false true false false) :=
  law_lifted (C := Try.checked) started own (by kernel_rfl) (by kernel_rfl) Try.func11 (by kernel_rfl) Try.underlying4 (by kernel_rfl)
    ⟨rfl, fun H ds h => by match ds, h with | [d1, d2], _ => exact ⟨rfl, rfl, rfl⟩⟩
    (ChangeSpec.witness6 (enc := enc) (C := Try.checked) false ⟨#[], #[.agg #[.int .u8 0, .slice none 0 0, .int .u8 0], .slice none 0 0], []⟩ 8 (by kernel_rfl) (by kernel_rfl) (by kernel_rfl) (by kernel_rfl)) (by rw [Try.params11]; exact walk)

theorem over : Rows.shrinkPartsRow.holds Try.pinned (OpenSpec.ofChange Rows.shrinkPartsSpec) :=
  OpenClaim.holds_of_wide 11 Try.f11 rfl rfl rfl rfl rfl rfl rfl ⟨rfl, rfl, rfl, rfl, rfl⟩ rfl rfl rfl rfl rfl (by kernel_rfl) Try.func11 (by kernel_rfl)
    (of_decide_eq_true (by kernel_rfl)) (by unfold Func.isWrapper; first | (rw [if_pos (by decide +kernel)]; kernel_rfl) | (rw [if_neg (by decide +kernel)]; exact ⟨rfl, rfl⟩))
    (fun os started H enc _ => lifted os started H enc)

theorem proved : Rows.ShrinkPartsSaid := over
end Go.Proofs.Ytmpbaanlagmacaa.lawParts
