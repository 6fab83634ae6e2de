/- The reference's family of predicates on schedules: the other four kinds, and all together. -/
import Derived.Test.YtmpbaanlagmacaaS2
namespace Go.Proofs.Ytmpbaanlagmacaa
open Go.RowKit

theorem len_read (l : List Pk) (k : Nat) (h : l.length ≤ k) : l.take k = l := List.take_of_length_le h

set_option maxHeartbeats 1000000 in
theorem refbad1 (kind n : Int) (A1 A2 : Option Addr) (n1 n2 c1 c2 : Nat) (want l : List Pk) (w : World) (hk5 : kind % 5 = 1) (hk0 : 0 ≤ kind) (hn0 : 0 ≤ n) (h2 : l.length = n2) (_hb2 : n2 ≤ 1000) :
    Calls Try.prog 51 #[.agg #[.int .i64 kind, .int .i64 n, .slice A1 n1 c1], .slice A2 n2 c2] w fun e w' => e = .returned (.bool (badP kind n want l)) ∧ Below w.heap.size w w' := by
  have hbad : Hid (badP kind n want l = decide (n % 7 ≤ (n2 : Int))) := by
    unfold Hid badP
    rw [if_neg (by omega), if_pos hk5, h2]
  go_enter Try.func51, Try.ntmps51
  go_wp2
  go_ret
  exact ⟨by rw [hbad.out]; rfl, (by repeat' (first | with_reducible exact Below.refl _ _ | with_reducible assumption | with_reducible refine Below.alloc ?_ ?_ _ | with_reducible refine Below.setCell ?_ ?_ _ | with_reducible refine Below.drew ?_ | with_reducible refine below_drewN ?_ _ | with_reducible refine Below.trans ?_ (Below.mono (by with_reducible assumption) ?_) | omega | (simp <;> omega)))⟩

set_option maxHeartbeats 1000000 in
theorem refbad4 (kind n : Int) (A1 A2 : Option Addr) (n1 n2 c1 c2 : Nat) (want l : List Pk) (w : World) (hk5 : kind % 5 = 4) (hk0 : 0 ≤ kind) :
    Calls Try.prog 51 #[.agg #[.int .i64 kind, .int .i64 n, .slice A1 n1 c1], .slice A2 n2 c2] w fun e w' => e = .returned (.bool (badP kind n want l)) ∧ Below w.heap.size w w' := by
  have hbad : Hid (badP kind n want l = true) := by
    unfold Hid badP
    rw [if_neg (by omega), if_neg (by omega), if_neg (by omega), if_neg (by omega)]
  go_enter Try.func51, Try.ntmps51
  go_wp2
  go_ret
  exact ⟨by rw [hbad.out]; rfl, (by repeat' (first | with_reducible exact Below.refl _ _ | with_reducible assumption | with_reducible refine Below.alloc ?_ ?_ _ | with_reducible refine Below.setCell ?_ ?_ _ | with_reducible refine Below.drew ?_ | with_reducible refine below_drewN ?_ _ | with_reducible refine Below.trans ?_ (Below.mono (by with_reducible assumption) ?_) | omega | (simp <;> omega)))⟩

theorem steps_snoc (l : List Pk) (p : Pk) : steps (l ++ [p]) = steps l + if p.1 == 0 then 1 else 0 := by simp [steps, List.countP_append, List.countP_cons]
theorem ends_snoc (l : List Pk) (p : Pk) : ends (l ++ [p]) = ends l + if p.1 == 1 then 1 else 0 := by simp [ends, List.countP_append, List.countP_cons]
theorem sum7_snoc (l : List Pk) (p : Pk) : sum7 (l ++ [p]) = sum7 l + p.2.2.tmod 7 := by simp [sum7]

set_option maxHeartbeats 1000000 in
theorem refbad2 (kind n : Int) (A1 A2 : Option Addr) (n1 n2 c1 c2 : Nat) (want l : List Pk) (B2 : Nat) (w : World) (hk5 : kind % 5 = 2) (hk0 : 0 ≤ kind) (h2 : l.length = n2) (hb2 : n2 ≤ 1000)
    (hB2 : B2 ≤ w.heap.size) (hr2 : Rd w B2 3 A2 n2 (l.flatMap pkc)) :
    Calls Try.prog 51 #[.agg #[.int .i64 kind, .int .i64 n, .slice A1 n1 c1], .slice A2 n2 c2] w fun e w' => e = .returned (.bool (badP kind n want l)) ∧ Below w.heap.size w w' := by
  have hbad : Hid (badP kind n want l = (steps l == ends l && decide (0 < steps l))) := by
    unfold Hid badP
    rw [if_neg (by omega), if_neg (by omega), if_pos hk5]
  go_enter Try.func51, Try.ntmps51
  go_wp2_with fail
  simp only [hk5]
  have Hk5 := hide hk5
  clear hk5
  go_loopw [8, 9, 10] (fun s e i wr => ∃ (k a b : Nat), k ≤ n2 ∧ i = .int .i64 k ∧ s = .int .i64 a ∧ e = .int .i64 b ∧ a ≤ k ∧ b ≤ k ∧ Hid (a = steps (l.take k)) ∧ Hid (b = ends (l.take k)) ∧ Below w.heap.size w wr)
    (fun _ _ i _ => n2 - (intOf i).toNat)
  case atStart => exact ⟨0, 0, 0, by omega, rfl, rfl, rfl, by omega, by omega, rfl, rfl, (by repeat' (first | with_reducible exact Below.refl _ _ | with_reducible assumption | with_reducible refine Below.alloc ?_ ?_ _ | with_reducible refine Below.setCell ?_ ?_ _ | with_reducible refine Below.drew ?_ | with_reducible refine below_drewN ?_ _ | with_reducible refine Below.trans ?_ (Below.mono (by with_reducible assumption) ?_) | omega | (simp <;> omega)))⟩
  case round =>
    obtain ⟨k, a, b, hk, rfl, rfl, rfl, ha, hb, Ha, Hb, hB⟩ := hrel
    by_cases hlt : k < n2
    · have hz1 : l[k]? = some (l[k]'(by omega)) := List.getElem?_eq_getElem (by omega)
      obtain ⟨bl, off, rfl, hbb, hcA⟩ := hr2.elem pkc_len hlt hz1
      generalize (l[k]'(by omega)) = x at hcA hz1
      obtain ⟨x0, x1, x2⟩ := x
      have hbw : bl < w.heap.size := Nat.lt_of_lt_of_le hbb hB2
      have g0 : wr.cell? ⟨bl, off + k * 3, none⟩ = some (.int .i64 x0) := (hB.cell (p := ⟨bl, off + k * 3, none⟩) hbw).trans (hcA 0 _ rfl)
      have Hs : Hid (steps (l.take (k + 1)) = a + if x0 == 0 then 1 else 0) := by
        unfold Hid
        rw [take_snoc l k _ hz1, steps_snoc, ← Ha.out]
      have He : Hid (ends (l.take (k + 1)) = b + if x0 == 1 then 1 else 0) := by
        unfold Hid
        rw [take_snoc l k _ hz1, ends_snoc, ← Hb.out]
      clear hz1 hcA hr2
      by_cases h0 : x0 = 0
      · subst h0
        go_wp2_with fail
        exact ⟨⟨k + 1, a + 1, b, by omega, by go_num, by go_num, rfl, by omega, by omega, by unfold Hid; rw [Hs.out]; simp, by unfold Hid; rw [He.out]; simp, hB⟩, by simp [intOf]; omega⟩
      · by_cases h1 : x0 = 1
        · subst h1
          go_wp2_with fail
          exact ⟨⟨k + 1, a, b + 1, by omega, by go_num, rfl, by go_num, by omega, by omega, by unfold Hid; rw [Hs.out]; simp, by unfold Hid; rw [He.out]; simp, hB⟩, by simp [intOf]; omega⟩
        · have e0 : (x0 == 0) = false := by simpa using h0
          have e1 : (x0 == 1) = false := by simpa using h1
          have Hs2 : Hid (steps (l.take (k + 1)) = a) := by unfold Hid; rw [Hs.out, e0]; simp
          have He2 : Hid (ends (l.take (k + 1)) = b) := by unfold Hid; rw [He.out, e1]; simp
          clear h0 h1
          go_wp2_with fail
          exact ⟨⟨k + 1, a, b, by omega, by go_num, rfl, rfl, by omega, by omega, by unfold Hid; rw [Hs2.out], by unfold Hid; rw [He2.out], hB⟩, by simp [intOf]; omega⟩
    · have hkn : k = n2 := by omega
      subst hkn
      rw [len_read l k (by omega)] at Ha Hb
      have hfin : Hid (badP kind n want l = (a == b && decide (0 < a))) := by unfold Hid; rw [hbad.out, ← Ha.out, ← Hb.out]
      clear hr2
      by_cases hab : a = b
      · subst hab
        by_cases ha0 : 0 < a
        · go_wp2
          go_ret
          exact ⟨by rw [hfin.out]; simp [ha0], hB⟩
        · obtain rfl : a = 0 := by omega
          go_wp2
          go_ret
          exact ⟨by rw [hfin.out]; simp, hB⟩
      · have hqd : ((a : Int) == (b : Int)) = false := by rw [beq_eq_false_iff_ne]; omega
        have Hqn := hide hab
        clear hab
        go_wp2
        go_ret
        exact ⟨by rw [hfin.out, beq_false_of_ne Hqn.out]; rfl, hB⟩

theorem sum7_bd (l : List Pk) : -6 * (l.length : Int) ≤ sum7 l ∧ sum7 l ≤ 6 * l.length := by
  refine snoc_ind (P := fun l => -6 * (l.length : Int) ≤ sum7 l ∧ sum7 l ≤ 6 * l.length) (by simp [sum7]) ?_ l
  intro l p ⟨h1, h2⟩
  rw [sum7_snoc, List.length_append]
  have a : p.2.2.tmod 7 < 7 := Int.tmod_lt_of_pos _ (by omega)
  have b : -7 < p.2.2.tmod 7 := Int.lt_tmod_of_pos _ (by omega)
  simp only [List.length_cons, List.length_nil]
  omega

set_option maxHeartbeats 1000000 in
theorem refbad3 (kind n : Int) (A1 A2 : Option Addr) (n1 n2 c1 c2 : Nat) (want l : List Pk) (B2 : Nat) (w : World) (hk5 : kind % 5 = 3) (hk0 : 0 ≤ kind) (hn0 : 0 ≤ n) (h2 : l.length = n2) (hb2 : n2 ≤ 1000)
    (hB2 : B2 ≤ w.heap.size) (hr2 : Rd w B2 3 A2 n2 (l.flatMap pkc)) :
    Calls Try.prog 51 #[.agg #[.int .i64 kind, .int .i64 n, .slice A1 n1 c1], .slice A2 n2 c2] w fun e w' => e = .returned (.bool (badP kind n want l)) ∧ Below w.heap.size w w' := by
  have hbad : Hid (badP kind n want l = (((sum7 l).tmod 7 + 7).tmod 7 == n % 7)) := by
    unfold Hid badP
    rw [if_neg (by omega), if_neg (by omega), if_neg (by omega), if_pos hk5]
  go_enter Try.func51, Try.ntmps51
  go_wp2_with fail
  simp only [hk5]
  have Hk5 := hide hk5
  clear hk5
  go_loopw [11, 12] (fun s i wr => ∃ (k : Nat) (a : Int), k ≤ n2 ∧ i = .int .i64 k ∧ s = .int .i64 a ∧ -6000 ≤ a ∧ a ≤ 6000 ∧ Hid (a = sum7 (l.take k)) ∧ Below w.heap.size w wr)
    (fun _ i _ => n2 - (intOf i).toNat)
  case atStart => exact ⟨0, 0, by omega, rfl, rfl, by omega, by omega, rfl, (by repeat' (first | with_reducible exact Below.refl _ _ | with_reducible assumption | with_reducible refine Below.alloc ?_ ?_ _ | with_reducible refine Below.setCell ?_ ?_ _ | with_reducible refine Below.drew ?_ | with_reducible refine below_drewN ?_ _ | with_reducible refine Below.trans ?_ (Below.mono (by with_reducible assumption) ?_) | omega | (simp <;> omega)))⟩
  case round =>
    obtain ⟨k, a, hk, rfl, rfl, ha, hb, Ha, hB⟩ := hrel
    by_cases hlt : k < n2
    · have hz1 : l[k]? = some (l[k]'(by omega)) := List.getElem?_eq_getElem (by omega)
      obtain ⟨bl, off, rfl, hbb, hcA⟩ := hr2.elem pkc_len hlt hz1
      generalize (l[k]'(by omega)) = x at hcA hz1
      obtain ⟨x0, x1, x2⟩ := x
      have hbw : bl < w.heap.size := Nat.lt_of_lt_of_le hbb hB2
      have g2 : wr.cell? ⟨bl, off + k * 3 + 2, none⟩ = some (.int .i64 x2) := (hB.cell (p := ⟨bl, off + k * 3 + 2, none⟩) hbw).trans (hcA 2 _ rfl)
      have hs : sum7 (l.take (k + 1)) = a + x2.tmod 7 := by rw [take_snoc l k _ hz1, sum7_snoc, ← Ha.out]
      have hsb := sum7_bd (l.take (k + 1))
      have hln : (l.take (k + 1)).length ≤ 1000 := by rw [List.length_take]; omega
      rw [hs] at hsb
      have Hs := hide hs
      have t1 : x2.tmod 7 < 7 := Int.tmod_lt_of_pos _ (by omega)
      have t2 : -7 < x2.tmod 7 := Int.lt_tmod_of_pos _ (by omega)
      have u1 : -6000 ≤ a + x2.tmod 7 := by omega
      have u2 : a + x2.tmod 7 ≤ 6000 := by omega
      clear hz1 hcA hr2 hs hsb hln
      go_wp2_with fail
      exact ⟨⟨k + 1, a + x2.tmod 7, by omega, by go_num, rfl, by omega, by omega, by unfold Hid; rw [Hs.out], hB⟩, by simp [intOf]; omega⟩
    · have hkn : k = n2 := by omega
      subst hkn
      rw [len_read l k (by omega)] at Ha
      have hfin : Hid (badP kind n want l = ((a.tmod 7 + 7).tmod 7 == n % 7)) := by unfold Hid; rw [hbad.out, ← Ha.out]
      have t1 : a.tmod 7 < 7 := Int.tmod_lt_of_pos _ (by omega)
      have t2 : -7 < a.tmod 7 := Int.lt_tmod_of_pos _ (by omega)
      have t3 : (a.tmod 7 + 7).tmod 7 = a.tmod 7 % 7 := by rw [Int.tmod_eq_emod_of_nonneg (by omega)]; omega
      have T3 := hide t3
      clear hr2 t3
      go_wp2
      all_goals go_ret
      all_goals exact ⟨by rw [hfin.out, T3.out]; rfl, hB⟩

theorem refbad_any (kind n : Int) (A1 A2 : Option Addr) (n1 n2 c1 c2 : Nat) (want l : List Pk) (B1 B2 : Nat) (w : World) (hk0 : 0 ≤ kind) (hn0 : 0 ≤ n) (h1 : want.length = n1) (h2 : l.length = n2) (hb1 : n1 ≤ 1000) (hb2 : n2 ≤ 1000)
    (hB1 : B1 ≤ w.heap.size) (hB2 : B2 ≤ w.heap.size) (hr1 : Rd w B1 3 A1 n1 (want.flatMap pkc)) (hr2 : Rd w B2 3 A2 n2 (l.flatMap pkc)) :
    Calls Try.prog 51 #[.agg #[.int .i64 kind, .int .i64 n, .slice A1 n1 c1], .slice A2 n2 c2] w fun e w' => e = .returned (.bool (badP kind n want l)) ∧ Below w.heap.size w w' := by
  have hm : kind % 5 = 0 ∨ kind % 5 = 1 ∨ kind % 5 = 2 ∨ kind % 5 = 3 ∨ kind % 5 = 4 := by omega
  rcases hm with h | h | h | h | h
  · exact refbad0 kind n A1 A2 n1 n2 c1 c2 want l B1 B2 w h hk0 h1 h2 hb1 hb2 hB1 hB2 hr1 hr2
  · exact refbad1 kind n A1 A2 n1 n2 c1 c2 want l w h hk0 hn0 h2 hb2
  · exact refbad2 kind n A1 A2 n1 n2 c1 c2 want l B2 w h hk0 h2 hb2 hB2 hr2
  · exact refbad3 kind n A1 A2 n1 n2 c1 c2 want l B2 w h hk0 hn0 h2 hb2 hB2 hr2
  · exact refbad4 kind n A1 A2 n1 n2 c1 c2 want l w h hk0
end Go.Proofs.Ytmpbaanlagmacaa
