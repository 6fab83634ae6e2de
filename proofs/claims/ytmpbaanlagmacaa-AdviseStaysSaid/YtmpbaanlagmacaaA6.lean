/- The reference's Heat and the chapter's example. -/
import Derived.Test.YtmpbaanlagmacaaA5
import Derived.ProofKit
namespace Go.Proofs.Ytmpbaanlagmacaa
open Go.RowKit Go.Maps

set_option maxHeartbeats 2000000 in
theorem refheat_any (many at_ : Int) (A : Option Addr) (n cap : Nat) (l : List (Int × Bool × Int)) (B0 : Nat) (w : World) (hn : l.length = n) (h300 : n ≤ 300) (hr : Rd w B0 3 A n (l.flatMap notec)) :
    Calls Try.prog 30 #[.int .i64 many, .slice A n cap, .int .i64 at_] w fun e w' => e = .returned (.int .i64 ((nfold many l).2 at_)) ∧ w = w' := by
  go_enter Try.func30, Try.ntmps30
  go_wp2
  go_loop [7, 8] (fun m i => ∃ (k : Nat) (c : Int), k ≤ n ∧ i = .int .i64 k ∧ m = .int .i64 c ∧ 0 ≤ c ∧ c ≤ k ∧ Hid (c = (nfold many (l.take k)).2 at_))
    (fun _ i => n - (intOf i).toNat)
  case atStart => exact ⟨0, 0, by omega, rfl, rfl, by omega, by omega, rfl⟩
  case round =>
    obtain ⟨k, c, hk, rfl, rfl, hc0, hc1, Hc⟩ := hrel
    by_cases hlt : k < n
    · have hzk : l[k]? = some (l[k]'(by omega)) := List.getElem?_eq_getElem (by omega)
      obtain ⟨b, off, rfl, hbW, hcA⟩ := hr.elem (fun _ => rfl) hlt hzk
      have Hnext : Hid (nfold many (l.take (k + 1)) = nstep many (nfold many (l.take k)) (l[k]'(by omega))) := by
        unfold Hid
        rw [List.take_succ_eq_append_getElem (by omega), nfold_snoc]
      generalize nfold many (l.take k) = F at Hnext Hc
      generalize (l[k]'(by omega)) = z at hcA hzk Hnext
      obtain ⟨x, d, y⟩ := z
      have hx0 : w.cell? ⟨b, off + k * 3, none⟩ = some (.int .i64 x) := hcA 0 _ rfl
      have hx1 : w.cell? ⟨b, off + k * 3 + 1, none⟩ = some (.bool d) := hcA 1 _ rfl
      have hx2 : w.cell? ⟨b, off + k * 3 + 2, none⟩ = some (.int .i64 y) := hcA 2 _ rfl
      clear hzk hcA hr hn
      cases d
      · by_cases hy : y = at_
        · subst hy
          by_cases h1 : 1 ≤ x
          · by_cases h2 : x ≤ many
            · go_wp2
              go_round
              case rel => exact ⟨k + 1, c + 1, by omega, by go_num, rfl, by omega, by omega, by unfold Hid; rw [Hnext.out, Hc.out]; simp [nstep, h1, h2, upd_same]⟩
              case measure => simp [intOf]; omega
            · go_wp2
              go_round
              case rel => exact ⟨k + 1, c, by omega, by go_num, rfl, by omega, by omega, by unfold Hid; rw [Hnext.out, Hc.out, nstep, if_neg (by omega)]⟩
              case measure => simp [intOf]; omega
          · go_wp2
            go_round
            case rel => exact ⟨k + 1, c, by omega, by go_num, rfl, by omega, by omega, by unfold Hid; rw [Hnext.out, Hc.out, nstep, if_neg (by omega)]⟩
            case measure => simp [intOf]; omega
        · have hyb : (y == at_) = false := by simpa using hy
          have Hy := hide hy
          clear hy
          go_wp2
          go_round
          case rel =>
            refine ⟨k + 1, c, by omega, by go_num, rfl, by omega, by omega, ?_⟩
            unfold Hid
            have hy2 : at_ ≠ y := fun e => Hy.out e.symm
            rw [Hnext.out, Hc.out]
            unfold nstep
            split
            · simp [upd_other hy2]
            · rfl
          case measure => simp [intOf]; omega
      · go_wp2
        go_round
        case rel =>
          refine ⟨k + 1, c, by omega, by go_num, rfl, by omega, by omega, ?_⟩
          unfold Hid
          rw [Hnext.out, Hc.out]
          unfold nstep
          split <;> rfl
        case measure => simp [intOf]; omega
    · have hkn : k = n := by omega
      subst hkn
      have hln : l.take k = l := by rw [← hn, List.take_length]
      rw [hln] at Hc
      clear hr hn hln hlt
      go_wp2
      go_ret
      exact ⟨ret_int (by rw [Hc.out]), rfl⟩

set_option maxHeartbeats 4000000 in
/-- The chapter's example. -/
theorem awake52_any (w : World) : Calls Try.prog 25 #[] w fun e w' => e = .returned (.bool true) ∧ Below w.heap.size w w' := by
  have w5 : (Lit.int .i64 5).wf = true := by decide
  have w6 : (Lit.int .i64 6).wf = true := by decide
  have W5 := hide w5
  have W6 := hide w6
  clear w5 w6
  go_enter Try.func25, Try.ntmps25
  go_wp2_with fail
  refine (anew_ok 2 _ (by omega) (by omega)).mono ?_
  rintro e w1 ⟨rfl, hb1⟩
  have hz1 := hb1.size
  go_wp2_with fail
  refine (fail_yes 2 2 5 none none 0 (fun _ => 0) (fun _ => 0) _ (by omega) (by omega) (by omega) W5.out ⟨MapF.nil _ _ _, MapF.nil _ _ _⟩ (by omega) (by omega) (by omega) (by omega) (by omega)).mono ?_
  rintro e w2 ⟨v1, v2, rfl, ha2, hb2⟩
  obtain ⟨hc2, hf2⟩ := bcell hb2
  have hy2 : w1.heap.size < w2.heap.size := (by have h := hb2.size; (try simp at h); omega)
  go_wp2_with fail
  refine (fail_yes 2 2 6 v1 v2 1 _ _ _ (by omega) (by omega) (by omega) W6.out ha2 (by omega) (by decide) (by decide) (by decide) (by decide)).mono ?_
  rintro e w3 ⟨v3, v4, rfl, ha3, hb3⟩
  obtain ⟨hc3, hf3⟩ := bcell hb3
  have hy3 : w1.heap.size < w3.heap.size := (by have h := hb3.size; (try simp at h); omega)
  obtain ⟨F, H, ha3, hF2, hF1, hH5⟩ : ∃ F H, AdvR w3 v3 v4 2 F H ∧ F 2 = 2 ∧ F 1 = 0 ∧ H 5 = 1 := ⟨_, _, ha3, by decide, by decide, by decide⟩
  have HF2 := hide hF2
  have HF1 := hide hF1
  have HH5 := hide hH5
  clear hF2 hF1 hH5
  go_wp2_with fail
  refine (rest_in 2 2 v3 v4 2 F H _ (by omega) (by omega) (by omega) (ha3.below (by repeat' (first | with_reducible exact Below.refl _ _ | with_reducible assumption | with_reducible refine Below.alloc ?_ ?_ _ | with_reducible refine Below.setCell ?_ ?_ _ | with_reducible refine Below.drew ?_ | with_reducible refine below_drewN ?_ _ | with_reducible refine Below.trans ?_ (Below.mono (by with_reducible assumption) ?_) | omega | (simp <;> omega)))) (by rw [HF2.out]; decide)).mono ?_
  rintro e w4 ⟨rfl, hb4⟩
  rw [HF2.out, show restv 2 2 = 4 from by decide]
  obtain ⟨hc4, hf4⟩ := bcell hb4
  have hw4_0 : w1.heap.size < w4.heap.size := (by have h := hb4.size; (try simp at h); omega)
  have hw4_1 : w3.heap.size < w4.heap.size := (by have h := hb4.size; (try simp at h); omega)
  go_wp2_with fail
  refine (rest_in 2 1 v3 v4 2 F H _ (by omega) (by omega) (by omega) (ha3.below (by repeat' (first | with_reducible exact Below.refl _ _ | with_reducible assumption | with_reducible refine Below.alloc ?_ ?_ _ | with_reducible refine Below.setCell ?_ ?_ _ | with_reducible refine Below.drew ?_ | with_reducible refine below_drewN ?_ _ | with_reducible refine Below.trans ?_ (Below.mono (by with_reducible assumption) ?_) | omega | (simp <;> omega)))) (by rw [HF1.out]; decide)).mono ?_
  rintro e w5 ⟨rfl, hb5⟩
  rw [HF1.out, show restv 0 1 = 0 from by decide]
  obtain ⟨hc5, hf5⟩ := bcell hb5
  have hw5_0 : w1.heap.size < w5.heap.size := (by have h := hb5.size; (try simp at h); omega)
  have hw5_1 : w3.heap.size < w5.heap.size := (by have h := hb5.size; (try simp at h); omega)
  go_wp2_with fail
  refine (win_yes 2 2 v3 v4 2 F H _ (by omega) (by omega) (by omega) (ha3.below (by repeat' (first | with_reducible exact Below.refl _ _ | with_reducible assumption | with_reducible refine Below.alloc ?_ ?_ _ | with_reducible refine Below.setCell ?_ ?_ _ | with_reducible refine Below.drew ?_ | with_reducible refine below_drewN ?_ _ | with_reducible refine Below.trans ?_ (Below.mono (by with_reducible assumption) ?_) | omega | (simp <;> omega))))).mono ?_
  rintro e w6 ⟨v5, rfl, ha5, hb6⟩
  obtain ⟨hc6, hf6⟩ := bcell hb6
  have hw6_0 : w1.heap.size < w6.heap.size := (by have h := hb6.size; (try simp at h); omega)
  have hw6_1 : w3.heap.size < w6.heap.size := (by have h := hb6.size; (try simp at h); omega)
  go_wp2_with fail
  refine (rest_in 2 2 v5 v4 2 _ _ _ (by omega) (by omega) (by omega) (ha5.below (by repeat' (first | with_reducible exact Below.refl _ _ | with_reducible assumption | with_reducible refine Below.alloc ?_ ?_ _ | with_reducible refine Below.setCell ?_ ?_ _ | with_reducible refine Below.drew ?_ | with_reducible refine below_drewN ?_ _ | with_reducible refine Below.trans ?_ (Below.mono (by with_reducible assumption) ?_) | omega | (simp <;> omega)))) (by rw [upd_same]; decide)).mono ?_
  rintro e w7 ⟨rfl, hb7⟩
  rw [upd_same, show restv 0 2 = 0 from by decide]
  obtain ⟨hc7, hf7⟩ := bcell hb7
  have hw7_0 : w1.heap.size < w7.heap.size := (by have h := hb7.size; (try simp at h); omega)
  have hw7_1 : w3.heap.size < w7.heap.size := (by have h := hb7.size; (try simp at h); omega)
  go_wp2_with fail
  refine (heat_any 2 5 v3 v4 2 F H _ W5.out (ha3.below (by repeat' (first | with_reducible exact Below.refl _ _ | with_reducible assumption | with_reducible refine Below.alloc ?_ ?_ _ | with_reducible refine Below.setCell ?_ ?_ _ | with_reducible refine Below.drew ?_ | with_reducible refine below_drewN ?_ _ | with_reducible refine Below.trans ?_ (Below.mono (by with_reducible assumption) ?_) | omega | (simp <;> omega))))).mono ?_
  rintro e w8 ⟨rfl, hb8⟩
  rw [HH5.out]
  obtain ⟨hc8, hf8⟩ := bcell hb8
  have hw8_0 : w1.heap.size < w8.heap.size := (by have h := hb8.size; (try simp at h); omega)
  have hw8_1 : w3.heap.size < w8.heap.size := (by have h := hb8.size; (try simp at h); omega)
  go_wp2_with fail
  refine (heat_any 2 5 none none 0 (fun _ => 0) (fun _ => 0) _ W5.out ⟨MapF.nil _ _ _, MapF.nil _ _ _⟩).mono ?_
  rintro e w9 ⟨rfl, hb9⟩
  obtain ⟨hc9, hf9⟩ := bcell hb9
  have hw9_0 : w1.heap.size < w9.heap.size := (by have h := hb9.size; (try simp at h); omega)
  have hw9_1 : w3.heap.size < w9.heap.size := (by have h := hb9.size; (try simp at h); omega)
  go_wp2
  go_ret
  exact ⟨rfl, (by repeat' (first | with_reducible exact Below.refl _ _ | with_reducible assumption | with_reducible refine Below.alloc ?_ ?_ _ | with_reducible refine Below.setCell ?_ ?_ _ | with_reducible refine Below.drew ?_ | with_reducible refine below_drewN ?_ _ | with_reducible refine Below.trans ?_ (Below.mono (by with_reducible assumption) ?_) | omega | (simp <;> omega)))⟩

open Go.ChangeShapes Go.WideShapes in
set_option maxRecDepth 100000 in
/-- A list of notes that came in. -/
theorem rd_notes {H : Type} {enc : TypeId × Value → H} {w : World} {base : Nat} {spare : Nat → Bool} {held : Bool} {v : Value} {d : DataW H} {p : List MemPlace} {r : Reach} {b0 : Nat} (hv : Value.okWide Try.prog w r b0 43 v) (h : DataW.Trod enc Try.prog w base spare held 43 v d p) :
    ∃ (A : Option Addr) (n cap : Nat) (l : List (Int × Bool × Int)), v = .slice A n cap ∧ n ≤ maxLen ∧ l.length = n ∧ Rd w w.heap.size 3 A n (l.flatMap notec) ∧ ∀ x ∈ l, (Lit.int .i64 x.1).wf = true ∧ (Lit.int .i64 x.2.2).wf = true := by
  obtain ⟨A, n, cap, xs, rfl, hm, hr, hx⟩ := rd_structs Try.underlying43 Try.underlying61 (by kernel_rfl) (by kernel_rfl) (by decide) hv h
  obtain ⟨l, hl, hgood, rfl⟩ := told_good 3 notec (fun _ => rfl) (fun x => (Lit.int .i64 x.1).wf = true ∧ (Lit.int .i64 x.2.2).wf = true) n xs hr.1 (fun i hi => by
    obtain ⟨m, hm⟩ := hx i hi
    obtain ⟨u0, y0, e0, t0⟩ := hm 0 _ rfl
    obtain ⟨u1, y1, e1, t1⟩ := hm 1 _ rfl
    obtain ⟨u2, y2, e2, t2⟩ := hm 2 _ rfl
    obtain ⟨z, rfl, wz⟩ := int_of Try.underlying3 t0
    obtain ⟨b, rfl⟩ := bool_of Try.underlying4 t1
    obtain ⟨y, rfl, wy⟩ := int_of Try.underlying44 t2
    exact ⟨(z, b, y), ⟨wz, wy⟩, fun j hj => by
      match j, hj with
      | 0, _ => exact e0
      | 1, _ => exact e1
      | 2, _ => exact e2⟩)
  exact ⟨A, n, cap, l, rfl, hm, hl, hr, hgood⟩
end Go.Proofs.Ytmpbaanlagmacaa
