/- Schedules of layer 60 as slices: comparing and converting them. -/
import Derived.Test.YtmpbaanlagmacaaProg
import Derived.Test.YtmpbaanlagmacaaLib
import Derived.Test.YtmpbaanlagmacaaS0
import Derived.WalkKit
import Derived.WalkSpells
import Derived.WalkLawsBesides
import Derived.Deep.QuietTactic
import Derived.BigQuiet
namespace Go.Proofs.Ytmpbaanlagmacaa
open Go.RowKit

theorem take_snoc {α : Type} (l : List α) (k : Nat) (x : α) (h : l[k]? = some x) : l.take (k + 1) = l.take k ++ [x] := by
  obtain ⟨h1, h2⟩ := List.getElem?_eq_some_iff.1 h
  rw [List.take_succ_eq_append_getElem h1, h2]
theorem beq_ne_len {l1 l2 : List Pk} (h : l1.length ≠ l2.length) : (l1 == l2) = false := by
  rw [beq_eq_false_iff_ne]
  exact fun e => h (by rw [e])

set_option maxHeartbeats 1000000 in
theorem alike_any (A1 A2 : Option Addr) (n1 n2 c1 c2 : Nat) (l1 l2 : List Pk) (B1 B2 : Nat) (w : World) (h1 : l1.length = n1) (h2 : l2.length = n2) (hb1 : n1 ≤ 1000) (hb2 : n2 ≤ 1000) (hr1 : Rd w B1 3 A1 n1 (l1.flatMap pkc)) (hr2 : Rd w B2 3 A2 n2 (l2.flatMap pkc)) :
    Calls Try.prog 41 #[.slice A1 n1 c1, .slice A2 n2 c2] w fun e w' => e = .returned (.bool (l1 == l2)) ∧ ∃ n, w' = w.drewN n := by
  by_cases hnn : n1 = n2
  · subst hnn
    go_enter Try.func41, Try.ntmps41
    go_wp2_with fail
    go_loopw [13] (fun i wr => ∃ k : Nat, k ≤ n1 ∧ i = .int .i64 k ∧ Hid (l1.take k = l2.take k) ∧ ∃ n, wr = w.drewN n)
      (fun i _ => n1 - (intOf i).toNat)
    case atStart => exact ⟨0, by omega, rfl, rfl, 0, rfl⟩
    case round =>
      obtain ⟨k, hk, rfl, Hk, m, rfl⟩ := hrel
      by_cases hlt : k < n1
      · have hz1 : l1[k]? = some (l1[k]'(by omega)) := List.getElem?_eq_getElem (by omega)
        have hz2 : l2[k]? = some (l2[k]'(by omega)) := List.getElem?_eq_getElem (by omega)
        obtain ⟨b, off, rfl, _, hcA⟩ := hr1.elem pkc_len hlt hz1
        obtain ⟨b', off', rfl, _, hcB⟩ := hr2.elem pkc_len hlt hz2
        generalize (l1[k]'(by omega)) = x at hcA hz1
        generalize (l2[k]'(by omega)) = y at hcB hz2
        obtain ⟨x0, x1, x2⟩ := x
        obtain ⟨y0, y1, y2⟩ := y
        have g0 : w.cell? ⟨b, off + k * 3, none⟩ = some (.int .i64 x0) := hcA 0 _ rfl
        have g1 : w.cell? ⟨b, off + k * 3 + 1, none⟩ = some (.int .i64 x1) := hcA 1 _ rfl
        have g2 : w.cell? ⟨b, off + k * 3 + 2, none⟩ = some (.int .i64 x2) := hcA 2 _ rfl
        have f0 : w.cell? ⟨b', off' + k * 3, none⟩ = some (.int .i64 y0) := hcB 0 _ rfl
        have f1 : w.cell? ⟨b', off' + k * 3 + 1, none⟩ = some (.int .i64 y1) := hcB 1 _ rfl
        have f2 : w.cell? ⟨b', off' + k * 3 + 2, none⟩ = some (.int .i64 y2) := hcB 2 _ rfl
        have hki : (0 : Int) ≤ (k : Int) := by omega
        have hkj : (k : Int) < (n1 : Int) := by omega
        have HZ1 := hide hz1
        have HZ2 := hide hz2
        clear hz1 hz2 hcA hcB hr1 hr2
        have hgd := guardA
        by_cases hxy : (x0, x1, x2) = (y0, y1, y2)
        · have he : ∀ W, (Op.equalIn 10000 82 (.agg #[.int .i64 x0, .int .i64 x1, .int .i64 x2]) (.agg #[.int .i64 y0, .int .i64 y1, .int .i64 y2])).run Try.prog W = .ok true W := fun W => by
            rw [show (true : Bool) = ((x0, x1, x2) == (y0, y1, y2)) by rw [hxy]; simp]
            exact equalInA (x0, x1, x2) (y0, y1, y2) W
          have Hxy := hide hxy
          clear hxy
          go_wp2_with fail
          go_quiet (fail)
          go_wp2_with fail
          exact ⟨⟨k + 1, by omega, by go_num, by unfold Hid; rw [take_snoc l1 k _ HZ1.out, take_snoc l2 k _ HZ2.out, Hk.out, Hxy.out], _, rfl⟩, by simp [intOf]; omega⟩
        · have he : ∀ W, (Op.equalIn 10000 82 (.agg #[.int .i64 x0, .int .i64 x1, .int .i64 x2]) (.agg #[.int .i64 y0, .int .i64 y1, .int .i64 y2])).run Try.prog W = .ok false W := fun W => by
            rw [show (false : Bool) = ((x0, x1, x2) == (y0, y1, y2)) by symm; simpa using hxy]
            exact equalInA (x0, x1, x2) (y0, y1, y2) W
          have Hxy := hide hxy
          clear hxy
          go_wp2_with fail
          go_quiet (fail)
          go_wp2
          go_ret
          refine ⟨?_, m + nq, by rw [World.drewN_drewN]⟩
          have hne : (l1 == l2) = false := by
            rw [beq_eq_false_iff_ne]
            intro e
            subst e
            have := HZ1.out.symm.trans HZ2.out
            injection this with this
            exact Hxy.out this
          rw [hne]
          rfl
      · have hkn : k = n1 := by omega
        subst hkn
        have hl : Hid ((l1 == l2) = true) := by
          have := Hk.out
          rw [List.take_of_length_le (by omega), List.take_of_length_le (by omega)] at this
          unfold Hid
          rw [this]
          simp
        clear hr1 hr2
        go_wp2
        go_ret
        exact ⟨by rw [hl.out]; rfl, _, rfl⟩
  · have hb : Hid ((l1 == l2) = false) := beq_ne_len (by omega)
    have hn2 : ((n1 : Int) != (n2 : Int)) = true := by rw [bne_iff_ne]; omega
    clear hr1 hr2
    go_enter Try.func41, Try.ntmps41
    go_wp2
    go_ret
    exact ⟨by rw [hb.out]; rfl, 0, rfl⟩

theorem info_pickR : (Try.prog.info? 92).map (fun i => (i.zero, i.size, i.bytes)) = some (some (.agg #[.int .i64 0, .int .i64 0, .int .i64 0]), 3, 24) := by kernel_rfl
theorem pkc_one (p : Pk) : ∀ u ∈ pkc p, u.oneCell' = true := by
  intro u hu
  simp [pkc] at hu
  rcases hu with rfl | rfl | rfl <;> rfl
theorem flat_snoc (l : List Pk) (p : Pk) : (l ++ [p]).flatMap pkc = l.flatMap pkc ++ pkc p := by simp

set_option maxHeartbeats 1000000 in
/-- The schedule in the reference's type. -/
theorem of_any (A : Option Addr) (n cap : Nat) (l : List Pk) (B : Nat) (w : World) (hn : l.length = n) (hb : n ≤ 1000) (hB : B ≤ w.heap.size) (hr : Rd w B 3 A n (l.flatMap pkc)) :
    Calls Try.prog 37 #[.slice A n cap] w fun e w' => ∃ A' cap', e = .returned (.slice A' n cap') ∧ w'.ownsRow w.heap.size 92 3 (.slice A' n cap') n (l.flatMap pkc) ∧ Below w.heap.size w w' := by
  obtain ⟨i0, hi, iz0, iz1, iz2⟩ := info_parts info_pickR
  go_enter Try.func37, Try.ntmps37
  go_wp2_with fail
  go_loopw [3, 8] (fun v i wr => ∃ k : Nat, k ≤ n ∧ i = .int .i64 k ∧ wr.ownsRow w.heap.size 92 3 v k ((l.take k).flatMap pkc) ∧ Below w.heap.size w wr)
    (fun _ i _ => n - (intOf i).toNat)
  case atStart => exact ⟨0, by omega, rfl, World.ownsRow_nil _ _ _ _, Below.refl _ _⟩
  case round =>
    obtain ⟨k, hk, rfl, hown, hB2⟩ := hrel
    by_cases hlt : k < n
    · have hz1 : l[k]? = some (l[k]'(by omega)) := List.getElem?_eq_getElem (by omega)
      obtain ⟨b, off, rfl, hbb, hcA⟩ := hr.elem pkc_len hlt hz1
      generalize (l[k]'(by omega)) = x at hcA hz1
      obtain ⟨x0, x1, x2⟩ := x
      have hbw : b < w.heap.size := Nat.lt_of_lt_of_le hbb hB
      have g0 : wr.cell? ⟨b, off + k * 3, none⟩ = some (.int .i64 x0) := (hB2.cell (p := ⟨b, off + k * 3, none⟩) hbw).trans (hcA 0 _ rfl)
      have g1 : wr.cell? ⟨b, off + k * 3 + 1, none⟩ = some (.int .i64 x1) := (hB2.cell (p := ⟨b, off + k * 3 + 1, none⟩) hbw).trans (hcA 1 _ rfl)
      have g2 : wr.cell? ⟨b, off + k * 3 + 2, none⟩ = some (.int .i64 x2) := (hB2.cell (p := ⟨b, off + k * 3 + 2, none⟩) hbw).trans (hcA 2 _ rfl)
      have Hz := hide hz1
      have Hsz := hB2.size
      clear hz1 hcA hr hn
      go_wp2_with (at_builtin; (refine wpList_append_own _ rfl _ _ 67 rfl w.heap.size 92 i0 _ 3 24 Try.underlying67 hi iz0 iz1 iz2 rfl (by decide) _ k ((l.take k).flatMap pkc) rfl (own_below hown (by repeat' (first | with_reducible exact Below.refl _ _ | with_reducible assumption | with_reducible refine Below.alloc ?_ ?_ _ | with_reducible refine Below.setCell ?_ ?_ _ | with_reducible refine Below.drew ?_ | with_reducible refine below_drewN ?_ _ | with_reducible refine Below.trans ?_ (Below.mono (by with_reducible assumption) ?_) | omega | (simp <;> omega)))) ⟨wr.heap.size + 1, 0, none⟩ 1 1 (pkc (x0, x1, x2)) rfl rfl ?o2 ?o3 ?o4 ?o5 ?o6 ?_))
      case o2 =>
        intro j u hj
        match j, hj with
        | 0, hj => simp [pkc] at hj; subst hj; simp [Addr.add]
        | 1, hj => simp [pkc] at hj; subst hj; simp [Addr.add]
        | 2, hj => simp [pkc] at hj; subst hj; simp [Addr.add]
        | (j + 3), hj => simp [pkc] at hj
      case o3 => exact pkc_one _
      case o4 => unfold maxLen; omega
      case o5 => omega
      case o6 => simp; omega
      intro v' w2 hown' hg _
      have hown2 : w2.ownsRow w.heap.size 92 3 v' (k + 1) ((l.take (k + 1)).flatMap pkc) := by
        rw [take_snoc l k _ Hz.out, flat_snoc]
        exact hown'
      have hB3 : Below w.heap.size w w2 := below_grown ((hB2.alloc hB2.size _).alloc (by simp; omega) _) hg (own_below hown (by repeat' (first | with_reducible exact Below.refl _ _ | with_reducible assumption | with_reducible refine Below.alloc ?_ ?_ _ | with_reducible refine Below.setCell ?_ ?_ _ | with_reducible refine Below.drew ?_ | with_reducible refine below_drewN ?_ _ | with_reducible refine Below.trans ?_ (Below.mono (by with_reducible assumption) ?_) | omega | (simp <;> omega)))) (Nat.le_refl _) (by simp; omega)
      clear hown' hg hown
      go_wp2_with fail
      first
        | exact ⟨⟨k + 1, by omega, by go_num, hown2, hB3⟩, by simp [intOf]; omega⟩
        | ((repeat apply Exists.intro); exact ⟨⟨k + 1, by omega, by go_num, hown2, hB3⟩, rfl⟩)
    · have hkn : k = n := by omega
      subst hkn
      rw [List.take_of_length_le (by omega)] at hown
      obtain ⟨A', cap', rfl, _⟩ := Rd.of_own hown
      clear hr
      go_wp2
      go_ret
      exact ⟨A', cap', rfl, hown, hB2⟩
end Go.Proofs.Ytmpbaanlagmacaa
