/- The reference's family of predicates on schedules. -/
import Derived.Test.YtmpbaanlagmacaaS1
namespace Go.Proofs.Ytmpbaanlagmacaa
open Go.RowKit

/-- The boxed predicate at block B. -/
def LookC (B : Nat) (kind n : Int) (A : Option Addr) (m cap : Nat) (w : World) : Prop :=
  w.cell? ⟨B, 0, none⟩ = some (.int .i64 kind) ∧ w.cell? ⟨B, 1, none⟩ = some (.int .i64 n) ∧ w.cell? ⟨B, 2, none⟩ = some (.slice A m cap)

set_option maxHeartbeats 1000000 in
theorem refbad0 (kind n : Int) (A1 A2 : Option Addr) (n1 n2 c1 c2 : Nat) (want l : List Pk) (B1 B2 : Nat) (w : World) (hk5 : kind % 5 = 0) (hk0 : 0 ≤ kind) (h1 : want.length = n1) (h2 : l.length = n2) (hb1 : n1 ≤ 1000) (hb2 : n2 ≤ 1000)
    (hB1 : B1 ≤ w.heap.size) (hB2 : B2 ≤ w.heap.size) (hr1 : Rd w B1 3 A1 n1 (want.flatMap pkc)) (hr2 : Rd w B2 3 A2 n2 (l.flatMap pkc)) :
    Calls Try.prog 51 #[.agg #[.int .i64 kind, .int .i64 n, .slice A1 n1 c1], .slice A2 n2 c2] w fun e w' => e = .returned (.bool (badP kind n want l)) ∧ Below w.heap.size w w' := by
  have hbad : Hid (badP kind n want l = (grd want 0 l == want.length)) := by unfold Hid badP; rw [if_pos hk5]
  go_enter Try.func51, Try.ntmps51
  go_wp2_with fail
  simp only [hk5]
  have Hk5 := hide hk5
  clear hk5
  go_loopw [6, 7] (fun a i wr => ∃ (k q : Nat), k ≤ n2 ∧ i = .int .i64 k ∧ a = .int .i64 q ∧ q ≤ n1 ∧ Hid (q = grd want 0 (l.take k)) ∧ LookC w.heap.size kind n A1 n1 c1 wr ∧ Below w.heap.size w wr)
    (fun _ i _ => n2 - (intOf i).toNat)
  case atStart => exact ⟨0, 0, by omega, rfl, rfl, by omega, rfl, by unfold LookC; simp, (by repeat' (first | with_reducible exact Below.refl _ _ | with_reducible assumption | with_reducible refine Below.alloc ?_ ?_ _ | with_reducible refine Below.setCell ?_ ?_ _ | with_reducible refine Below.drew ?_ | with_reducible refine below_drewN ?_ _ | with_reducible refine Below.trans ?_ (Below.mono (by with_reducible assumption) ?_) | omega | (simp <;> omega)))⟩
  case round =>
    obtain ⟨k, q, hk, rfl, rfl, hq, Hq, ⟨c0, c1, c2⟩, hB⟩ := hrel
    by_cases hlt : k < n2
    · have hz1 : l[k]? = some (l[k]'(by omega)) := List.getElem?_eq_getElem (by omega)
      obtain ⟨b, off, rfl, hbb, hcA⟩ := hr2.elem pkc_len hlt hz1
      generalize (l[k]'(by omega)) = x at hcA hz1
      obtain ⟨x0, x1, x2⟩ := x
      have hbw : b < w.heap.size := Nat.lt_of_lt_of_le hbb hB2
      have g0 : wr.cell? ⟨b, off + k * 3, none⟩ = some (.int .i64 x0) := (hB.cell (p := ⟨b, off + k * 3, none⟩) hbw).trans (hcA 0 _ rfl)
      have g1 : wr.cell? ⟨b, off + k * 3 + 1, none⟩ = some (.int .i64 x1) := (hB.cell (p := ⟨b, off + k * 3 + 1, none⟩) hbw).trans (hcA 1 _ rfl)
      have g2 : wr.cell? ⟨b, off + k * 3 + 2, none⟩ = some (.int .i64 x2) := (hB.cell (p := ⟨b, off + k * 3 + 2, none⟩) hbw).trans (hcA 2 _ rfl)
      have Hnx : Hid (grd want 0 (l.take (k + 1)) = if want[q]? = some (x0, x1, x2) then q + 1 else q) := by
        unfold Hid
        rw [take_snoc l k _ hz1, grd_snoc, ← Hq.out]
      have hki : (0 : Int) ≤ (k : Int) := by omega
      have hkj : (k : Int) < (n2 : Int) := by omega
      have hgd := guardR
      clear hz1 hcA hr2
      by_cases hqn : q < n1
      · have hz2 : want[q]? = some (want[q]'(by omega)) := List.getElem?_eq_getElem (by omega)
        obtain ⟨b', off', rfl, hbb', hcB⟩ := hr1.elem pkc_len hqn hz2
        generalize (want[q]'(by omega)) = y at hcB hz2
        obtain ⟨y0, y1, y2⟩ := y
        have hbw' : b' < w.heap.size := Nat.lt_of_lt_of_le hbb' hB1
        have f0 : wr.cell? ⟨b', off' + q * 3, none⟩ = some (.int .i64 y0) := (hB.cell (p := ⟨b', off' + q * 3, none⟩) hbw').trans (hcB 0 _ rfl)
        have f1 : wr.cell? ⟨b', off' + q * 3 + 1, none⟩ = some (.int .i64 y1) := (hB.cell (p := ⟨b', off' + q * 3 + 1, none⟩) hbw').trans (hcB 1 _ rfl)
        have f2 : wr.cell? ⟨b', off' + q * 3 + 2, none⟩ = some (.int .i64 y2) := (hB.cell (p := ⟨b', off' + q * 3 + 2, none⟩) hbw').trans (hcB 2 _ rfl)
        have hqi : (0 : Int) ≤ (q : Int) := by omega
        have hqj : (q : Int) < (n1 : Int) := by omega
        rw [hz2] at Hnx
        clear hz2 hcB hr1
        by_cases hxy : (x0, x1, x2) = (y0, y1, y2)
        · have he : ∀ W, (Op.equalIn 10000 92 (.agg #[.int .i64 x0, .int .i64 x1, .int .i64 x2]) (.agg #[.int .i64 y0, .int .i64 y1, .int .i64 y2])).run Try.prog W = .ok true W := fun W => by
            rw [show (true : Bool) = ((x0, x1, x2) == (y0, y1, y2)) by rw [hxy]; simp]
            exact equalInR (x0, x1, x2) (y0, y1, y2) W
          rw [hxy] at Hnx
          clear hxy
          go_wp2_with fail
          go_quiet (fail)
          go_wp2_with fail
          exact ⟨⟨k + 1, q + 1, by omega, by go_num, by go_num, by omega, by unfold Hid; rw [Hnx.out]; simp, ⟨c0, c1, c2⟩, (by repeat' (first | with_reducible exact Below.refl _ _ | with_reducible assumption | with_reducible refine Below.alloc ?_ ?_ _ | with_reducible refine Below.setCell ?_ ?_ _ | with_reducible refine Below.drew ?_ | with_reducible refine below_drewN ?_ _ | with_reducible refine Below.trans ?_ (Below.mono (by with_reducible assumption) ?_) | omega | (simp <;> omega)))⟩, by simp [intOf]; omega⟩
        · have he : ∀ W, (Op.equalIn 10000 92 (.agg #[.int .i64 x0, .int .i64 x1, .int .i64 x2]) (.agg #[.int .i64 y0, .int .i64 y1, .int .i64 y2])).run Try.prog W = .ok false W := fun W => by
            rw [show (false : Bool) = ((x0, x1, x2) == (y0, y1, y2)) by symm; simpa using hxy]
            exact equalInR (x0, x1, x2) (y0, y1, y2) W
          have Hn2 : Hid (grd want 0 (l.take (k + 1)) = q) := by
            unfold Hid
            rw [Hnx.out, if_neg]
            intro e
            injection e with e
            exact hxy e.symm
          clear hxy
          go_wp2_with fail
          go_quiet (fail)
          go_wp2_with fail
          exact ⟨⟨k + 1, q, by omega, by go_num, rfl, by omega, by unfold Hid; rw [Hn2.out], ⟨c0, c1, c2⟩, (by repeat' (first | with_reducible exact Below.refl _ _ | with_reducible assumption | with_reducible refine Below.alloc ?_ ?_ _ | with_reducible refine Below.setCell ?_ ?_ _ | with_reducible refine Below.drew ?_ | with_reducible refine below_drewN ?_ _ | with_reducible refine Below.trans ?_ (Below.mono (by with_reducible assumption) ?_) | omega | (simp <;> omega)))⟩, by simp [intOf]; omega⟩
      · have Hn2 : Hid (grd want 0 (l.take (k + 1)) = q) := by
          unfold Hid
          rw [Hnx.out, if_neg]
          rw [List.getElem?_eq_none (by omega)]
          simp
        have hqd : decide ((q : Int) < (n1 : Int)) = false := by simp; omega
        clear hr1
        go_wp2_with fail
        go_quiet (fail)
        go_wp2_with fail
        exact ⟨⟨k + 1, q, by omega, by go_num, rfl, by omega, by unfold Hid; rw [Hn2.out], ⟨c0, c1, c2⟩, (by repeat' (first | with_reducible exact Below.refl _ _ | with_reducible assumption | with_reducible refine Below.alloc ?_ ?_ _ | with_reducible refine Below.setCell ?_ ?_ _ | with_reducible refine Below.drew ?_ | with_reducible refine below_drewN ?_ _ | with_reducible refine Below.trans ?_ (Below.mono (by with_reducible assumption) ?_) | omega | (simp <;> omega)))⟩, by simp [intOf]; omega⟩
    · have hkn : k = n2 := by omega
      subst hkn
      have hl : Hid (q = grd want 0 l) := by
        have := Hq.out
        rw [List.take_of_length_le (by omega)] at this
        exact this
      clear hr1 hr2
      by_cases hqn : q = n1
      · subst hqn
        go_wp2
        go_ret
        exact ⟨by rw [hbad.out, ← hl.out, h1]; simp, hB⟩
      · have hqd : ((q : Int) == (n1 : Int)) = false := by rw [beq_eq_false_iff_ne]; omega
        have Hqn := hide hqn
        clear hqn
        go_wp2
        go_ret
        exact ⟨by rw [hbad.out, ← hl.out, h1, beq_false_of_ne Hqn.out]; rfl, hB⟩
end Go.Proofs.Ytmpbaanlagmacaa
