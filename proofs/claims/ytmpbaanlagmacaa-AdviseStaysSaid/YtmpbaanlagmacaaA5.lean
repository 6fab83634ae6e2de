/- The notes of layer 52 at a number of threads that does not exist; the reference's Rest and Heat; the chapter's example. -/
import Derived.Test.YtmpbaanlagmacaaA4
namespace Go.Proofs.Ytmpbaanlagmacaa
open Go.RowKit Go.Maps

set_option maxHeartbeats 2000000 in
set_option maxRecDepth 100000 in
theorem noted_bad (th : Int) (A : Option Addr) (n cap : Nat) (l : List (Int × Bool × Int)) (B0 : Nat) (w : World) (ht : th < 1 ∨ 8 < th) (hn : l.length = n) (h300 : n ≤ 300)
    (hB0 : B0 ≤ w.heap.size) (hr : Rd w B0 3 A n (l.flatMap notec)) :
    Calls Try.prog 26 #[.int .i64 th, .slice A n cap] w fun e w' => e = .returned (.tuple #[.agg #[.int .i64 0, .map none, .map none], .int .i64 3]) ∧ Below w.heap.size w w' := by
  go_enter Try.func26, Try.ntmps26
  go_wp2_with (first
    | (go_at_call 46; refine (anew_no _ _ ht).mono ?_; rintro e w1 ⟨rfl, hb1⟩; obtain ⟨hc1, hf1⟩ := bcell hb1; have hy1 : w.heap.size < w1.heap.size := (by have h := hb1.size; (try simp at h); omega)))
  go_loopw [8] (fun i wr => ∃ (k : Nat), k ≤ n ∧ i = .int .i64 k ∧ AdvC w1.heap.size 0 none none wr ∧ AdvC w.heap.size 0 none none wr ∧ Below w.heap.size w wr)
    (fun i _ => n - (intOf i).toNat)
  case atStart =>
    refine ⟨0, by omega, rfl, by unfold AdvC; simp, ?_, (by repeat' (first | with_reducible exact Below.refl _ _ | with_reducible assumption | with_reducible refine Below.alloc ?_ ?_ _ | with_reducible refine Below.setCell ?_ ?_ _ | with_reducible refine Below.drew ?_ | with_reducible refine below_drewN ?_ _ | with_reducible refine Below.trans ?_ (Below.mono (by with_reducible assumption) ?_) | omega | (simp <;> omega)))⟩
    unfold AdvC
    refine ⟨by go_simp, by go_simp, by go_simp, by go_simp, by go_simp, by go_simp, by simp; omega⟩
  case round =>
    obtain ⟨k, hk, rfl, ⟨c0, c1, c2, f0, f1, f2, hz⟩, hR, hB⟩ := hrel
    by_cases hlt : k < n
    · have hzk : l[k]? = some (l[k]'(by omega)) := List.getElem?_eq_getElem (by omega)
      obtain ⟨b, off, rfl, hbW, hcA⟩ := hr.elem (fun _ => rfl) hlt hzk
      generalize (l[k]'(by omega)) = z at hcA hzk
      obtain ⟨t, d, at_⟩ := z
      have hx0 : wr.cell? ⟨b, off + k * 3, none⟩ = some (.int .i64 t) := (hB.cell (p := ⟨b, off + k * 3, none⟩) (Nat.lt_of_lt_of_le hbW hB0)).trans (hcA 0 _ rfl)
      have hx1 : wr.cell? ⟨b, off + k * 3 + 1, none⟩ = some (.bool d) := (hB.cell (p := ⟨b, off + k * 3 + 1, none⟩) (Nat.lt_of_lt_of_le hbW hB0)).trans (hcA 1 _ rfl)
      have hx2 : wr.cell? ⟨b, off + k * 3 + 2, none⟩ = some (.int .i64 at_) := (hB.cell (p := ⟨b, off + k * 3 + 2, none⟩) (Nat.lt_of_lt_of_le hbW hB0)).trans (hcA 2 _ rfl)
      clear hzk hcA hr hn
      obtain ⟨r0, r1, r2, r3, r4, r5, r6⟩ := hR
      have hv0 : t < 1 ∨ 0 < t := by omega
      have hv := hide hv0
      clear hv0
      cases d
      · go_wp2
        go_still_tail 11, (by kernel_rfl)
        change wpList _ _ _ _ _ wr.drew
        go_wp2_with (go_at_call 31; refine (fail_no 0 t at_ none none _ hv.out).mono ?_; rintro e w2 ⟨rfl, hb2'⟩; have hb2 : Below wr.heap.size wr w2 := (Below.refl _ _).drew.trans hb2'; clear hb2'; obtain ⟨hc2, hf2⟩ := bcell hb2; have hy2 : w1.heap.size < w2.heap.size := (by have h := hb2.size; (try simp at h); omega); have hy3 : w.heap.size < w2.heap.size := (by have h := hb2.size; (try simp at h); omega))
        have hC := AdvC.below ⟨c0, c1, c2, f0, f1, f2, hz⟩ hb2
        have hD := AdvC.below ⟨r0, r1, r2, r3, r4, r5, r6⟩ hb2
        exact ⟨⟨k + 1, by omega, by go_num, hC.set, hD.far (by omega) _ _ _, (by repeat' (first | with_reducible exact Below.refl _ _ | with_reducible assumption | with_reducible refine Below.alloc ?_ ?_ _ | with_reducible refine Below.setCell ?_ ?_ _ | with_reducible refine Below.drew ?_ | with_reducible refine below_drewN ?_ _ | with_reducible refine Below.trans ?_ (Below.mono (by with_reducible assumption) ?_) | omega | (simp <;> omega)))⟩, by simp [intOf]; omega⟩
      · go_wp2
        go_still_tail 6, (by kernel_rfl)
        change wpList _ _ _ _ _ wr.drew
        go_wp2_with (go_at_call 32; refine (win_no 0 t none none _ hv.out).mono ?_; rintro e w2 ⟨rfl, hb2'⟩; have hb2 : Below wr.heap.size wr w2 := (Below.refl _ _).drew.trans hb2'; clear hb2'; obtain ⟨hc2, hf2⟩ := bcell hb2; have hy2 : w1.heap.size < w2.heap.size := (by have h := hb2.size; (try simp at h); omega); have hy3 : w.heap.size < w2.heap.size := (by have h := hb2.size; (try simp at h); omega))
        have hC := AdvC.below ⟨c0, c1, c2, f0, f1, f2, hz⟩ hb2
        have hD := AdvC.below ⟨r0, r1, r2, r3, r4, r5, r6⟩ hb2
        exact ⟨⟨k + 1, by omega, by go_num, hC.set, hD.far (by omega) _ _ _, (by repeat' (first | with_reducible exact Below.refl _ _ | with_reducible assumption | with_reducible refine Below.alloc ?_ ?_ _ | with_reducible refine Below.setCell ?_ ?_ _ | with_reducible refine Below.drew ?_ | with_reducible refine below_drewN ?_ _ | with_reducible refine Below.trans ?_ (Below.mono (by with_reducible assumption) ?_) | omega | (simp <;> omega)))⟩, by simp [intOf]; omega⟩
    · have hkn : k = n := by omega
      subst hkn
      obtain ⟨r0, r1, r2, r3, r4, r5, r6⟩ := hR
      clear hr hn
      go_wp2
      exact bodyPost_ret (v := .tuple #[.agg #[.int .i64 0, .map none, .map none], .int .i64 3]) (by simp [results, Try.results26, go_sem, r0, r1, r2]) rfl ⟨rfl, (by repeat' (first | with_reducible exact Below.refl _ _ | with_reducible assumption | with_reducible refine Below.alloc ?_ ?_ _ | with_reducible refine Below.setCell ?_ ?_ _ | with_reducible refine Below.drew ?_ | with_reducible refine below_drewN ?_ _ | with_reducible refine Below.trans ?_ (Below.mono (by with_reducible assumption) ?_) | omega | (simp <;> omega)))⟩

theorem p2_bd : ∀ j : Nat, j < 7 → 1 ≤ p2 j ∧ p2 j ≤ 64
  | 0, _ | 1, _ | 2, _ | 3, _ | 4, _ | 5, _ | 6, _ => by decide

set_option maxHeartbeats 2000000 in
theorem refrest_in (many t : Int) (A : Option Addr) (n cap : Nat) (l : List (Int × Bool × Int)) (B0 : Nat) (w : World) (ht : 1 ≤ t) (htm : t ≤ many) (h8 : many ≤ 8) (hn : l.length = n) (h300 : n ≤ 300) (hr : Rd w B0 3 A n (l.flatMap notec)) :
    Calls Try.prog 28 #[.int .i64 many, .slice A n cap, .int .i64 t] w fun e w' => e = .returned (.int .i64 (restv ((nfold many l).1 t) t)) ∧ w = w' := by
  go_enter Try.func28, Try.ntmps28
  go_wp2
  go_loop [7, 8] (fun m i => ∃ (k : Nat) (c : Int), k ≤ n ∧ i = .int .i64 k ∧ m = .int .i64 c ∧ 0 ≤ c ∧ c ≤ k ∧ Hid (c = (nfold many (l.take k)).1 t))
    (fun _ i => n - (intOf i).toNat)
  case atStart => exact ⟨0, 0, by omega, rfl, rfl, by omega, by omega, rfl⟩
  case round =>
    obtain ⟨k, c, hk, rfl, rfl, hc0, hc1, Hc⟩ := hrel
    by_cases hlt : k < n
    · have hzk : l[k]? = some (l[k]'(by omega)) := List.getElem?_eq_getElem (by omega)
      obtain ⟨b, off, rfl, hbW, hcA⟩ := hr.elem (fun _ => rfl) hlt hzk
      have Hnext : Hid (nfold many (l.take (k + 1)) = nstep many (nfold many (l.take k)) (l[k]'(by omega))) := by
        unfold Hid
        rw [List.take_succ_eq_append_getElem (by omega), nfold_snoc]
      generalize nfold many (l.take k) = F at Hnext Hc
      generalize (l[k]'(by omega)) = z at hcA hzk Hnext
      obtain ⟨x, d, at_⟩ := z
      have hx0 : w.cell? ⟨b, off + k * 3, none⟩ = some (.int .i64 x) := hcA 0 _ rfl
      have hx1 : w.cell? ⟨b, off + k * 3 + 1, none⟩ = some (.bool d) := hcA 1 _ rfl
      clear hzk hcA hr hn
      by_cases hxt : x = t
      · subst hxt
        cases d
        · go_wp2
          go_round
          case rel => exact ⟨k + 1, c + 1, by omega, by go_num, rfl, by omega, by omega, by unfold Hid; rw [Hnext.out, Hc.out]; simp [nstep, ht, htm, upd_same]⟩
          case measure => simp [intOf]; omega
        · go_wp2
          go_round
          case rel => exact ⟨k + 1, 0, by omega, by go_num, rfl, by omega, by omega, by unfold Hid; rw [Hnext.out]; simp [nstep, ht, htm, upd_same]⟩
          case measure => simp [intOf]; omega
      · have hne : (x != t) = true := by simpa using hxt
        have Hne := hide hxt
        clear hxt
        go_wp2
        go_round
        case rel =>
          refine ⟨k + 1, c, by omega, by go_num, rfl, by omega, by omega, ?_⟩
          unfold Hid
          have hxt := Hne.out
          have htx : t ≠ x := fun e => hxt e.symm
          rw [Hnext.out, Hc.out]
          unfold nstep
          split
          · split <;> simp only <;> rw [upd_other htx]
          · rfl
        case measure => simp [intOf]; omega
    · have hkn : k = n := by omega
      subst hkn
      have hln : l.take k = l := by rw [← hn, List.take_length]
      rw [hln] at Hc
      clear hr hn hln hlt
      by_cases h0 : c = 0
      · subst h0
        go_wp2
        go_ret
        exact ⟨ret_int (by rw [← Hc.out]; rfl), rfl⟩
      · have hb0 : (c == 0) = false := by simpa using h0
        have hp : 1 ≤ c := by omega
        clear h0
        go_wp2
        go_loop [9, 10] (fun r i => ∃ j : Nat, j ≤ 7 ∧ (j : Int) ≤ c ∧ i = .int .i64 j ∧ r = .int .i64 (p2 j)) (fun _ i => 8 - (intOf i).toNat)
        case atStart => exact ⟨0, by omega, by omega, rfl, rfl⟩
        case round =>
          obtain ⟨j, hj7, hjc, rfl, rfl⟩ := hrel
          by_cases hjl : j < 7
          · obtain ⟨b1, b2⟩ := p2_bd j hjl
            by_cases hjk : (j : Int) < c
            · go_wp2
              go_round
              case rel => exact ⟨j + 1, by omega, by omega, by go_num, rfl⟩
              case measure => simp [intOf]; omega
            · have hjc2 : c = j := by omega
              subst hjc2
              have hrv : restv (j : Int) t = if 64 < p2 j - 1 + t - 1 then 64 else p2 j - 1 + t - 1 := by
                unfold restv
                rw [if_neg (by omega), if_pos (by omega)]
                simp
              have Hrv := hide hrv
              clear hrv
              by_cases hg : 64 < p2 j - 1 + t - 1
              · go_wp2
                go_ret
                exact ⟨ret_int (by rw [← Hc.out, Hrv.out, if_pos hg]), rfl⟩
              · go_wp2
                go_ret
                exact ⟨ret_int (by rw [← Hc.out, Hrv.out, if_neg (by omega)]), rfl⟩
          · obtain rfl : j = 7 := by omega
            have hrv : restv c t = 64 := by
              unfold restv
              rw [if_neg (by omega), if_neg (by omega)]
            have Hrv := hide hrv
            clear hrv
            have h128 : p2 7 = 128 := by decide
            simp only [h128]
            clear h128
            by_cases hjk : (7 : Int) < c
            · go_wp2
              go_ret
              exact ⟨ret_int (by rw [← Hc.out, Hrv.out]), rfl⟩
            · go_wp2
              go_ret
              exact ⟨ret_int (by rw [← Hc.out, Hrv.out]), rfl⟩

theorem refrest_out (many t : Int) (A : Option Addr) (n cap : Nat) (w : World) (h : t < 1 ∨ many < t) :
    Calls Try.prog 28 #[.int .i64 many, .slice A n cap, .int .i64 t] w fun e w' => e = .returned (.int .i64 0) ∧ w = w' := by
  by_cases h1 : t < 1
  · go_enter Try.func28, Try.ntmps28
    go_wp2
    go_ret
    exact ⟨rfl, rfl⟩
  · have h2 : many < t := by omega
    clear h
    go_enter Try.func28, Try.ntmps28
    go_wp2
    go_ret
    exact ⟨rfl, rfl⟩
end Go.Proofs.Ytmpbaanlagmacaa
