/- The reference's Count, and the events of ProgressCounts as they are read. -/
import Derived.Test.YtmpbaanlagmacaaP1
namespace Go.Proofs.Ytmpbaanlagmacaa
open Go.ChangeShapes Go.WideShapes Go.ChangeAt Go.RowKit

def cstep (c : Int × Int × Int) (b : Bool) : Int × Int × Int := if b then (gmax c.1 (c.2.1 + 1), c.2.1 + 1, c.2.2) else (c.1, 0, c.2.2 + 1)
/-- The counters after a list of events: worst, since, ops. -/
def cnt (l : List Bool) : Int × Int × Int := l.foldl cstep (0, 0, 0)
theorem cnt_snoc (l : List Bool) (b : Bool) : cnt (l ++ [b]) = cstep (cnt l) b := by simp [cnt, List.foldl_append]
theorem gmax_bd (a b : Int) : a ≤ gmax a b ∧ b ≤ gmax a b := by unfold gmax; split <;> omega
theorem gmax_le {a b c : Int} (h1 : a ≤ c) (h2 : b ≤ c) : gmax a b ≤ c := by unfold gmax; split <;> omega
theorem snoc_ind {α : Type} {P : List α → Prop} (h0 : P []) (h1 : ∀ l a, P l → P (l ++ [a])) (l : List α) : P l := by
  have h : ∀ r : List α, P r.reverse := by
    intro r
    induction r with
    | nil => exact h0
    | cons a r ih => rw [List.reverse_cons]; exact h1 _ _ ih
  rw [← List.reverse_reverse l]
  exact h _
theorem cnt_bd (l : List Bool) : 0 ≤ (cnt l).2.1 ∧ (cnt l).2.1 ≤ (cnt l).1 ∧ (cnt l).1 ≤ l.length ∧ 0 ≤ (cnt l).2.2 ∧ (cnt l).2.2 ≤ l.length ∧ (cnt l).2.1 ≤ l.length := by
  refine snoc_ind (P := fun l => 0 ≤ (cnt l).2.1 ∧ (cnt l).2.1 ≤ (cnt l).1 ∧ (cnt l).1 ≤ l.length ∧ 0 ≤ (cnt l).2.2 ∧ (cnt l).2.2 ≤ l.length ∧ (cnt l).2.1 ≤ l.length) ?_ ?_ l
  · simp [cnt]
  · intro l b ih
    rw [cnt_snoc]
    generalize cnt l = c at ih ⊢
    obtain ⟨x, y, z⟩ := c
    simp only [List.length_append, List.length_cons, List.length_nil, Nat.zero_add]
    simp only at ih
    have h1 := gmax_bd x (y + 1)
    have h2 : gmax x (y + 1) ≤ l.length + 1 := gmax_le (by omega) (by omega)
    cases b <;> simp [cstep] <;> omega

set_option maxHeartbeats 1000000 in
theorem count_any (A : Option Addr) (n cap : Nat) (l : List Bool) (B : Nat) (w : World) (hn : l.length = n) (h300 : n ≤ 1000) (hr : Rd w B 1 A n (l.map Value.bool)) :
    Calls Try.prog 19 #[.slice A n cap] w fun e w' => e = .returned (.tuple #[.int .i64 (cnt l).1, .int .i64 (cnt l).2.1, .int .i64 (cnt l).2.2]) ∧ w = w' := by
  go_enter Try.func19, Try.ntmps19
  go_wp2
  go_loop [5, 6, 7, 8] (fun a5 a6 a7 a8 => ∃ (k : Nat) (wo s o : Int), k ≤ n ∧ Hid (cnt (l.take k) = (wo, s, o)) ∧ a8 = .int .i64 k ∧ a5 = .int .i64 wo ∧ a6 = .int .i64 s ∧ a7 = .int .i64 o)
    (fun _ _ _ i => n - (intOf i).toNat)
  case atStart => exact ⟨0, 0, 0, 0, by omega, rfl, rfl, rfl, rfl, rfl⟩
  case round =>
    obtain ⟨k, wo, s, o, hk, hc, rfl, rfl, rfl, rfl⟩ := hrel
    have hbd := cnt_bd (l.take k)
    rw [hc.out] at hbd
    simp only at hbd
    have hlen : (l.take k).length ≤ k := List.length_take_le _ _
    obtain ⟨q1, q2, q3, q4, q5, q6⟩ := hbd
    by_cases hlt : k < n
    · obtain ⟨b, off, rfl, hbW, hcA⟩ := hr.at_ hlt
      have hzk : l[k]? = some (l[k]'(by omega)) := List.getElem?_eq_getElem (by omega)
      have hcz := hcA k _ (by rw [List.getElem?_map, hzk]; rfl)
      have hnext : Hid (cnt (l.take (k + 1)) = cstep (wo, s, o) (l[k]'(by omega))) := by
        rw [List.take_succ_eq_append_getElem (by omega), cnt_snoc, hc.out]
        rfl
      generalize (l[k]'(by omega)) = z at hcz hnext hzk
      clear hzk hcA hr hn hc
      cases z
      · go_wp2
        go_round
        case rel => exact ⟨k + 1, wo, 0, o + 1, by omega, hnext, by go_num, rfl, rfl, rfl⟩
        case measure => simp [intOf]; omega
      · by_cases hm : wo < s + 1
        · go_wp2
          go_round
          case rel => exact ⟨k + 1, s + 1, s + 1, o, by omega, by unfold Hid; rw [hnext.out]; simp [cstep, gmax_lt hm], by go_num, rfl, rfl, rfl⟩
          case measure => simp [intOf]; omega
        · go_wp2
          go_round
          case rel => exact ⟨k + 1, wo, s + 1, o, by omega, by unfold Hid; rw [hnext.out]; simp [cstep, gmax_ge (show s + 1 ≤ wo by omega)], by go_num, rfl, rfl, rfl⟩
          case measure => simp [intOf]; omega
    · have hkn : k = n := by omega
      subst hkn
      rw [← hn, List.take_length] at hc
      clear hr hn
      go_wp2
      go_ret3
      rw [hc.out]
      exact ⟨rfl, rfl⟩
end Go.Proofs.Ytmpbaanlagmacaa
