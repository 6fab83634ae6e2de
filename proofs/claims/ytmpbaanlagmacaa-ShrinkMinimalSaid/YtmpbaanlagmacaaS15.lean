/- The reference of layer 60: Minimal; the law's comparison of the two types. -/
import Derived.Test.YtmpbaanlagmacaaS14
namespace Go.Proofs.Ytmpbaanlagmacaa
open Go.RowKit

set_option maxHeartbeats 1000000 in
theorem same_any (A1 A2 : Option Addr) (n1 n2 c1 c2 : Nat) (l1 l2 : List Pk) (B1 B2 : Nat) (w : World) (h1 : l1.length = n1) (h2 : l2.length = n2) (hb1 : n1 ≤ 1000) (hb2 : n2 ≤ 1000) (hr1 : Rd w B1 3 A1 n1 (l1.flatMap pkc)) (hr2 : Rd w B2 3 A2 n2 (l2.flatMap pkc)) :
    Calls Try.prog 38 #[.slice A1 n1 c1, .slice A2 n2 c2] w fun e w' => e = .returned (.bool (l1 == l2)) ∧ ∃ n, w' = w.drewN n := by
  by_cases hnn : n1 = n2
  · subst hnn
    go_enter Try.func38, Try.ntmps38
    go_wp2_with fail
    go_loopw [13] (fun i wr => ∃ k : Nat, k ≤ n1 ∧ i = .int .i64 k ∧ Hid (l1.take k = l2.take k) ∧ ∃ n, wr = w.drewN n)
      (fun i _ => n1 - (intOf i).toNat)
    case atStart => exact ⟨0, by omega, rfl, rfl, 0, rfl⟩
    case round =>
      obtain ⟨k, hk, rfl, Hk, m, rfl⟩ := hrel
      by_cases hlt : k < n1
      · have hz1 : l1[k]? = some (l1[k]'(by omega)) := List.getElem?_eq_getElem (by omega)
        have hz2 : l2[k]? = some (l2[k]'(by omega)) := List.getElem?_eq_getElem (by omega)
        obtain ⟨b, off, rfl, _, hcA⟩ := hr1.elem pkc_len hlt hz1
        obtain ⟨b', off', rfl, _, hcB⟩ := hr2.elem pkc_len hlt hz2
        generalize (l1[k]'(by omega)) = x at hcA hz1
        generalize (l2[k]'(by omega)) = y at hcB hz2
        obtain ⟨x0, x1, x2⟩ := x
        obtain ⟨y0, y1, y2⟩ := y
        have g0 : w.cell? ⟨b, off + k * 3, none⟩ = some (.int .i64 x0) := hcA 0 _ rfl
        have g1 : w.cell? ⟨b, off + k * 3 + 1, none⟩ = some (.int .i64 x1) := hcA 1 _ rfl
        have g2 : w.cell? ⟨b, off + k * 3 + 2, none⟩ = some (.int .i64 x2) := hcA 2 _ rfl
        have f0 : w.cell? ⟨b', off' + k * 3, none⟩ = some (.int .i64 y0) := hcB 0 _ rfl
        have f1 : w.cell? ⟨b', off' + k * 3 + 1, none⟩ = some (.int .i64 y1) := hcB 1 _ rfl
        have f2 : w.cell? ⟨b', off' + k * 3 + 2, none⟩ = some (.int .i64 y2) := hcB 2 _ rfl
        have hki : (0 : Int) ≤ (k : Int) := by omega
        have hkj : (k : Int) < (n1 : Int) := by omega
        have HZ1 := hide hz1
        have HZ2 := hide hz2
        clear hz1 hz2 hcA hcB hr1 hr2
        have hgd := guardR
        by_cases hxy : (x0, x1, x2) = (y0, y1, y2)
        · have he : ∀ W, (Op.equalIn 10000 92 (.agg #[.int .i64 x0, .int .i64 x1, .int .i64 x2]) (.agg #[.int .i64 y0, .int .i64 y1, .int .i64 y2])).run Try.prog W = .ok true W := fun W => by
            rw [show (true : Bool) = ((x0, x1, x2) == (y0, y1, y2)) by rw [hxy]; simp]
            exact equalInR (x0, x1, x2) (y0, y1, y2) W
          have Hxy := hide hxy
          clear hxy
          go_wp2_with fail
          go_quiet (fail)
          go_wp2_with fail
          exact ⟨⟨k + 1, by omega, by go_num, by unfold Hid; rw [take_snoc l1 k _ HZ1.out, take_snoc l2 k _ HZ2.out, Hk.out, Hxy.out], _, rfl⟩, by simp [intOf]; omega⟩
        · have he : ∀ W, (Op.equalIn 10000 92 (.agg #[.int .i64 x0, .int .i64 x1, .int .i64 x2]) (.agg #[.int .i64 y0, .int .i64 y1, .int .i64 y2])).run Try.prog W = .ok false W := fun W => by
            rw [show (false : Bool) = ((x0, x1, x2) == (y0, y1, y2)) by symm; simpa using hxy]
            exact equalInR (x0, x1, x2) (y0, y1, y2) W
          have Hxy := hide hxy
          clear hxy
          go_wp2_with fail
          go_quiet (fail)
          go_wp2
          go_ret
          refine ⟨?_, m + nq, by rw [World.drewN_drewN]⟩
          have hne : (l1 == l2) = false := by
            rw [beq_eq_false_iff_ne]
            intro e
            subst e
            have := HZ1.out.symm.trans HZ2.out
            injection this with this
            exact Hxy.out this
          rw [hne]
          rfl
      · have hkn : k = n1 := by omega
        subst hkn
        have hl : Hid ((l1 == l2) = true) := by
          have := Hk.out
          rw [List.take_of_length_le (by omega), List.take_of_length_le (by omega)] at this
          unfold Hid
          rw [this]
          simp
        clear hr1 hr2
        go_wp2
        go_ret
        exact ⟨by rw [hl.out]; rfl, _, rfl⟩
  · have hb : Hid ((l1 == l2) = false) := beq_ne_len (by omega)
    have hn2 : ((n1 : Int) != (n2 : Int)) = true := by rw [bne_iff_ne]; omega
    clear hr1 hr2
    go_enter Try.func38, Try.ntmps38
    go_wp2
    go_ret
    exact ⟨by rw [hb.out]; rfl, 0, rfl⟩


set_option maxHeartbeats 2000000 in
set_option maxRecDepth 100000 in
theorem rminimal_any (k N : Int) (A A2 : Option Addr) (n n2 cap cap2 : Nat) (want l : List Pk) (B : Nat) (w : World) (hk0 : 0 ≤ k) (hN0 : 0 ≤ N) (hn : want.length = n) (hb : n ≤ 1000) (hn2 : l.length = n2) (hb2 : n2 ≤ 1000) (hcap2 : n2 ≤ cap2)
    (hB : B ≤ w.heap.size) (hr : Rd w B 3 A n (want.flatMap pkc)) (hr2 : Rd w w.heap.size 3 A2 n2 (l.flatMap pkc)) :
    Calls Try.prog 43 #[.agg #[.int .i64 k, .int .i64 N, .slice A n cap], .slice A2 n2 cap2] w fun e w' => e = .returned (.bool (minimalP (badP k N want) l)) ∧ Below w.heap.size w w' := by
  obtain ⟨p, hp⟩ : ∃ p, p = badP k N want := ⟨_, rfl⟩
  obtain ⟨R, hR⟩ : ∃ R, R = minimalP p l := ⟨_, rfl⟩
  have HP := hide hp
  have HR := hide hR
  have Hn := hide hn
  have Hn2 := hide hn2
  rw [← HP.out, ← HR.out]
  clear hp hR hn hn2
  go_enter Try.func43, Try.ntmps43
  go_wp2_with fail
  refine (refbad_any k N A A2 n n2 cap cap2 want l B w.heap.size _ hk0 hN0 Hn.out Hn2.out hb hb2 (by first | omega | (simp; done) | (simp; omega)) (by first | omega | (simp; done) | (simp; omega)) (hr.below (by repeat' (first | with_reducible exact Below.refl _ _ | with_reducible assumption | with_reducible refine Below.alloc ?_ ?_ _ | with_reducible refine Below.setCell ?_ ?_ _ | with_reducible refine Below.drew ?_ | with_reducible refine below_drewN ?_ _ | with_reducible refine Below.trans ?_ (Below.mono (by with_reducible assumption) ?_) | omega | (simp <;> omega)))) (hr2.below (by repeat' (first | with_reducible exact Below.refl _ _ | with_reducible assumption | with_reducible refine Below.alloc ?_ ?_ _ | with_reducible refine Below.setCell ?_ ?_ _ | with_reducible refine Below.drew ?_ | with_reducible refine below_drewN ?_ _ | with_reducible refine Below.trans ?_ (Below.mono (by with_reducible assumption) ?_) | omega | (simp <;> omega))))).mono ?_
  rintro e w1 ⟨rfl, hb1⟩
  obtain ⟨hcc1, hff1⟩ := bcell hb1; have hs1 := hb1.size; (try simp at hs1); have hz1 : w.heap.size < w1.heap.size := (by omega)
  rw [← HP.out]
  obtain ⟨b, hbd⟩ : ∃ b, b = p l := ⟨_, rfl⟩
  rw [← hbd]
  have Hb := hide hbd
  clear hbd
  cases b with
  | false =>
    go_wp2
    go_ret
    exact ⟨by rw [HR.out]; simp [minimalP, ← Hb.out], (by repeat' (first | with_reducible exact Below.refl _ _ | with_reducible assumption | with_reducible refine Below.alloc ?_ ?_ _ | with_reducible refine Below.setCell ?_ ?_ _ | with_reducible refine Below.drew ?_ | with_reducible refine below_drewN ?_ _ | with_reducible refine Below.trans ?_ (Below.mono (by with_reducible assumption) ?_) | omega | (simp <;> omega)))⟩
  | true =>
    have hlc1 : LookC w.heap.size k N A n cap w1 := by unfold LookC; refine ⟨?_, ?_, ?_⟩ <;> go_simp
    have hB1 : Below w.heap.size w w1 := (by repeat' (first | with_reducible exact Below.refl _ _ | with_reducible assumption | with_reducible refine Below.alloc ?_ ?_ _ | with_reducible refine Below.setCell ?_ ?_ _ | with_reducible refine Below.drew ?_ | with_reducible refine below_drewN ?_ _ | with_reducible refine Below.trans ?_ (Below.mono (by with_reducible assumption) ?_) | omega | (simp <;> omega)))
    go_wp2_with fail
    go_loopw [5] (fun t wr => ∃ i : Nat, t = .int .i64 i ∧ i ≤ n2 ∧ Hid (∀ j, j < i → p (l.eraseIdx j) = false) ∧ LookC w.heap.size k N A n cap wr ∧ Below w1.heap.size w1 wr)
      (fun t _ => n2 - (intOf t).toNat)
    case atStart => exact ⟨0, rfl, by omega, hide (fun j h => absurd h (Nat.not_lt_zero j)), hlc1, Below.refl _ _⟩
    case round =>
      obtain ⟨i, rfl, hi, Hall, hlc, hbw⟩ := hrel
      have hzz := hbw.size
      by_cases hlt : i < n2
      · have hlc0 := hlc
        obtain ⟨c0, c1, c2⟩ := hlc
        have hwz : w.heap.size < wr.heap.size := by omega
        have hBr : Below w.heap.size w wr := hB1.trans (hbw.mono (by omega))
        have hr2w := (hr2.below hBr).more hBr.size
        go_wp2_with fail
        go_region_held3 (fun w' => w'.cell? ⟨w.heap.size, 0, none⟩ = some (.int .i64 k) ∧ w'.cell? ⟨w.heap.size, 1, none⟩ = some (.int .i64 N) ∧ w'.cell? ⟨w.heap.size, 2, none⟩ = some (.slice A n cap))
          (first | exact ⟨by go_simp, by go_simp, by go_simp⟩ | go_keep)
          (first
            | (go_at_call 52; refine (rwithout_any A2 n2 cap2 i l wr.heap.size _ Hn2.out hb2 hcap2 hlt (by first | omega | (simp; done) | (simp; omega)) (hr2w.below (by repeat' (first | with_reducible exact Below.refl _ _ | with_reducible assumption | with_reducible refine Below.alloc ?_ ?_ _ | with_reducible refine Below.setCell ?_ ?_ _ | with_reducible refine Below.drew ?_ | with_reducible refine below_drewN ?_ _ | with_reducible refine Below.trans ?_ (Below.mono (by with_reducible assumption) ?_) | omega | (simp <;> omega))))).mono ?_; rintro e w3 ⟨A3, m3, c3, rfl, hown3, hl3, hb3'⟩; have hb3 : Below _ _ w3 := (by first | with_reducible exact noDrew hb3' | exact hb3'); have hown3' : w3.ownsRow wr.heap.size 92 3 (.slice A3 m3 c3) m3 ((l.eraseIdx i).flatMap pkc) := hown3; clear hb3' hown3; obtain ⟨hcc3, hff3⟩ := bcell hb3; have hs3 := hb3.size; have hwz3 : w.heap.size < w3.heap.size := (by omega); have hrr := Rd.of_own hown3')
            | (go_at_call 51; obtain ⟨A4, c4, e4, hr3⟩ := hrr; injection e4 with e4 _ e5; subst e4 e5; refine (refbad_any k N A A3 n m3 cap c3 want (l.eraseIdx i) B w3.heap.size _ hk0 hN0 Hn.out hl3 hb (by rw [← hl3, List.length_eraseIdx_of_lt (by rw [Hn2.out]; omega), Hn2.out]; omega) (by first | omega | (simp; done) | (simp; omega)) (by first | omega | (simp; done) | (simp; omega)) (hr.below ((hBr.trans (hb3.mono (by omega))).mono hB)) hr3).mono ?_; rintro e w4 ⟨rfl, hb4⟩; have hs4 := hb4.size; obtain ⟨hcc4, hff4⟩ := bcell hb4))
        have hlc4 : LookC w.heap.size k N A n cap w4 := ⟨(hcc4 _ _ hwz3).trans ((hcc3 _ _ hwz).trans c0), (hcc4 _ _ hwz3).trans ((hcc3 _ _ hwz).trans c1), (hcc4 _ _ hwz3).trans ((hcc3 _ _ hwz).trans c2)⟩
        have hb14 : Below w1.heap.size w1 w4 := (hbw.trans (hb3.mono hzz)).trans (hb4.mono (by omega))
        rw [← HP.out]
        obtain ⟨b, hbd⟩ : ∃ b, b = p (l.eraseIdx i) := ⟨_, rfl⟩
        rw [← hbd]
        have Hbd := hide hbd
        clear hbd
        cases b with
        | true =>
          go_wp2
          go_ret
          refine ⟨?_, hB1.trans (hb14.mono (by omega))⟩
          rw [HR.out]
          have : minimalP p l = false := by
            cases h : minimalP p l with
            | false => rfl
            | true => have := ((minimalP_iff p l).1 h).2 i (by rw [Hn2.out]; omega); rw [← Hbd.out] at this; cases this
          rw [this]
          rfl
        | false =>
          go_wp2_with fail
          refine ⟨⟨i + 1, by go_num, by omega, hide fun j hj => ?_, hlc4, hb14⟩, by simp [intOf]; omega⟩
          by_cases h : j = i
          · subst h; exact Hbd.out.symm
          · exact Hall.out j (by omega)
      · obtain rfl : i = n2 := by omega
        go_wp2
        go_ret
        refine ⟨?_, hB1.trans (hbw.mono (by omega))⟩
        rw [HR.out, (minimalP_iff p l).2 ⟨Hb.out.symm, fun j hj => Hall.out j (by rw [← Hn2.out]; exact hj)⟩]
        rfl
end Go.Proofs.Ytmpbaanlagmacaa
