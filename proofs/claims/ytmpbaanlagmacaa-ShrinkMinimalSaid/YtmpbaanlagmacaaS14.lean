/- The reference of layer 60: Least. -/
import Derived.Test.YtmpbaanlagmacaaS13
namespace Go.Proofs.Ytmpbaanlagmacaa
open Go.RowKit

theorem Rd.len_eq {w : World} {B n : Nat} {A : Option Addr} {l : List Pk} (h : Rd w B 3 A n (l.flatMap pkc)) : l.length = n := by
  have := h.1
  rw [pkc_flat] at this
  omega

/-- What the reference's Least answers. -/
def LeastPost (F : List Pk × Nat) (w : World) (e : Ending) (w' : World) : Prop :=
  ∃ A' n' cap', e = .returned (.tuple #[.slice A' n' cap', .int .i64 F.2]) ∧ F.1.length = n' ∧ Rd w' w'.heap.size 3 A' n' (F.1.flatMap pkc) ∧ Below w.heap.size w w'

set_option maxHeartbeats 2000000 in
set_option maxRecDepth 100000 in
theorem rleast_any (k N : Int) (A A2 : Option Addr) (n n2 cap cap2 : Nat) (want l : List Pk) (B : Nat) (w : World) (hk0 : 0 ≤ k) (hN0 : 0 ≤ N) (hn : want.length = n) (hb : n ≤ 1000) (hn2 : l.length = n2) (hb2 : n2 ≤ 1000)
    (hB : B ≤ w.heap.size) (hr : Rd w B 3 A n (want.flatMap pkc)) (hr2 : Rd w w.heap.size 3 A2 n2 (l.flatMap pkc)) :
    Calls Try.prog 35 #[.agg #[.int .i64 k, .int .i64 N, .slice A n cap], .slice A2 n2 cap2] w (LeastPost (leastP (badP k N want) l) w) := by
  obtain ⟨i0, hi, iz0, iz1, iz2⟩ := info_parts info_pickR
  obtain ⟨p, hp⟩ : ∃ p, p = badP k N want := ⟨_, rfl⟩
  obtain ⟨F, hF⟩ : ∃ F, F = leastP p l := ⟨_, rfl⟩
  have HP := hide hp
  have HF := hide hF
  have Hn := hide hn
  have Hn2 := hide hn2
  rw [← HP.out, ← HF.out]
  clear hp hF hn hn2
  go_enter Try.func35, Try.ntmps35
  go_wp2_with (at_builtin; (refine wpList_append_rd rfl _ _ 67 rfl (w.heap.size + 1) 92 i0 _ 3 24 Try.underlying67 hi iz0 iz1 iz2 rfl (by decide) (.slice none 0 0) 0 [] rfl (World.ownsRow_nil _ _ _ _) A2 n2 cap2 _ rfl w.heap.size (hr2.below (by repeat' (first | with_reducible exact Below.refl _ _ | with_reducible assumption | with_reducible refine Below.alloc ?_ ?_ _ | with_reducible refine Below.setCell ?_ ?_ _ | with_reducible refine Below.drew ?_ | with_reducible refine below_drewN ?_ _ | with_reducible refine Below.trans ?_ (Below.mono (by with_reducible assumption) ?_) | omega | (simp <;> omega)))) (pkc_ones _) ?o1 ?o2 (by first | omega | (simp; done) | (simp; omega)) (w.heap.size + 1) _ (Below.refl _ _) (Nat.le_refl _) ?_))
  case o1 => unfold maxLen; omega
  case o2 => omega
  intro v1 w1 hown1 hb1 hz1
  (try simp at hz1)
  obtain ⟨A1, cap1, rfl, hc1', _⟩ := own_slice hown1
  obtain ⟨A1', cap1', e1, hr1⟩ := Rd.of_own hown1
  injection e1 with e1 e2 e3
  subst e1 e3
  obtain ⟨hcc1, hff1⟩ := bcellB hb1
  have hB1 : Below w.heap.size w w1 := ((Below.refl w.heap.size w).alloc (Nat.le_refl _) _).trans (hb1.mono (by omega))
  have hlb : LookC w.heap.size k N A n cap w1 := by
    unfold LookC
    refine ⟨?_, ?_, ?_⟩ <;> (rw [hcc1 _ _ (by omega)]; go_simp)
  clear hown1 hcc1 hff1 hb1
  have hlb0 := hlb
  obtain ⟨c0, c1, c2⟩ := hlb
  have hw1z : w.heap.size < w1.heap.size := by omega
  go_wp2_with fail
  refine (refbad_any k N A A1 n n2 cap cap1 want l B w1.heap.size _ hk0 hN0 Hn.out Hn2.out hb hb2 (by omega) (Nat.le_refl _) (hr.below (hB1.mono hB)) hr1).mono ?_
  rintro e w2 ⟨rfl, hb2'⟩
  rw [← HP.out]
  obtain ⟨hcc2, hff2⟩ := bcell hb2'
  have hs2 := hb2'.size
  obtain ⟨b, hbd⟩ : ∃ b, b = p l := ⟨_, rfl⟩
  have Hb := hide hbd
  rw [← hbd]
  clear hbd
  have hr12 := hr1.below hb2'
  cases b with
  | false =>
    have hFF : F = (l, 1) := by rw [HF.out]; exact leastP_false _ _ Hb.out.symm
    subst hFF
    go_wp2
    go_ret2
    exact ⟨A1, n2, cap1, rfl, Hn2.out, hr12.more hs2, (by repeat' (first | with_reducible exact Below.refl _ _ | with_reducible assumption | with_reducible refine Below.alloc ?_ ?_ _ | with_reducible refine Below.setCell ?_ ?_ _ | with_reducible refine Below.drew ?_ | with_reducible refine below_drewN ?_ _ | with_reducible refine Below.trans ?_ (Below.mono (by with_reducible assumption) ?_) | omega | (simp <;> omega)))⟩
  | true =>
    have hB2 : Below w.heap.size w w2 := (by repeat' (first | with_reducible exact Below.refl _ _ | with_reducible assumption | with_reducible refine Below.alloc ?_ ?_ _ | with_reducible refine Below.setCell ?_ ?_ _ | with_reducible refine Below.drew ?_ | with_reducible refine below_drewN ?_ _ | with_reducible refine Below.trans ?_ (Below.mono (by with_reducible assumption) ?_) | omega | (simp <;> omega)))
    have hlb2 : LookC w.heap.size k N A n cap w2 := ⟨(hcc2 _ _ hw1z).trans c0, (hcc2 _ _ hw1z).trans c1, (hcc2 _ _ hw1z).trans c2⟩
    have hF2 := leastP_true p l Hb.out.symm
    rw [← HF.out] at hF2
    have HF2 := hide hF2
    clear hF2 c0 c1 c2
    go_wp2_with fail
    go_loopw [6, 7, 8] (fun v a g wr => ∃ (A' : Option Addr) (n' cap' : Nat) (x : List Pk) (less : Bool) (ask : Nat), v = .slice A' n' cap' ∧ a = .int .i64 ask ∧ g = .bool less ∧ n' ≤ cap' ∧ Rd wr wr.heap.size 3 A' n' (x.flatMap pkc) ∧ n' ≤ n2 ∧ ask ≤ 1 + 1000 * (n2 - n') + (if less then 0 else 1000) ∧ LookC w.heap.size k N A n cap wr ∧ Below w.heap.size w wr ∧
        (less = true → ∃ q, n' < q ∧ (shrP p q x).1 = F.1 ∧ ask + (shrP p q x).2 = F.2) ∧ (less = false → x = F.1 ∧ ask = F.2))
      (fun v _ g _ => lenOf' v + tl g)
    case atStart =>
      exact ⟨A1, n2, cap1, l, true, 1, rfl, rfl, rfl, hc1', hr12.more hs2, by omega, by omega, hlb2, hB2, fun _ => ⟨l.length + 1, by have := Hn2.out; omega, by rw [HF2.out], by rw [HF2.out]⟩, fun h => by cases h⟩
    case round =>
      obtain ⟨A', n', cap', x, less, ask, rfl, rfl, rfl, hcp, hrx, hnn, hask, hlc, hbw, ht, hf⟩ := hrel
      obtain ⟨wo, rfl⟩ : ∃ wo : World, wo = wr := ⟨_, rfl⟩
      have hx := hrx.len_eq
      have Hrx := hide hrx
      have Hlc := hide hlc
      have Hx := hide hx
      clear hrx hlc hx
      cases less with
      | true =>
        have Ht := hide (ht rfl)
        clear ht hf
        simp only [if_true] at hask
        go_wp2_with fail
        go_loopw [6, 7, 8, 9] (fun v a g i wr => ∃ (A2 : Option Addr) (m c2 j : Nat) (y : List Pk) (ak : Nat), v = .slice A2 m c2 ∧ a = .int .i64 ak ∧ g = .bool (decide (m < n')) ∧ i = .int .i64 j ∧ m ≤ c2 ∧ Rd wr wr.heap.size 3 A2 m (y.flatMap pkc) ∧ j ≤ m ∧ m ≤ n' ∧ passP p (m - j) y j = passP p n' x 0 ∧ ak + (m - j : Nat) = ask + n' ∧ LookC w.heap.size k N A n cap wr ∧ Below wo.heap.size wo wr)
          (fun v _ _ i _ => lenOf' v - (intOf i).toNat)
        case atStart =>
          exact ⟨A', n', cap', 0, x, ask, rfl, rfl, by simp, rfl, hcp, Hrx.out, by omega, by omega, rfl, by omega, Hlc.out, Below.refl _ _⟩
        case round =>
          obtain ⟨A2, m, c2, j, y, ak, rfl, rfl, rfl, rfl, hcp2, hry, hjm, hmn, hpp, hak, ⟨d0, d1, d2⟩, hbo⟩ := hrel
          have hy := hry.len_eq
          have Hry := hide hry
          have Hpp := hide hpp
          have Hy := hide hy
          have hzo := hbo.size
          have hzw := hbw.size
          clear hry hpp hy
          by_cases hlt : j < m
          · go_wp2_with fail
            refine (rwithout_any A2 m c2 j y _ _ Hy.out (by omega) hcp2 hlt (Nat.le_refl _) Hry.out).mono ?_
            rintro e w3 ⟨A3, m3, c3, rfl, hown3, hl3, hb3⟩
            obtain ⟨_, _, e3, hc3, _⟩ := own_slice hown3
            obtain ⟨_, _, e4, hr3⟩ := Rd.of_own hown3
            injection e3 with e3 _ e5
            subst e3 e5
            injection e4 with e4 _ e5
            subst e4 e5
            obtain ⟨hcc3, hff3⟩ := bcell hb3
            have hs3 := hb3.size
            have hm3 : m3 + 1 = m := by rw [← hl3, List.length_eraseIdx_of_lt (by rw [Hy.out]; omega), Hy.out]; omega
            have hwz : w.heap.size < wr.heap.size := cell_lt d0
            have hl3' := hide hl3
            clear hown3 hl3
            go_wp2_with fail
            refine (refbad_any k N A A3 n m3 cap c3 want (y.eraseIdx j) B w3.heap.size _ hk0 hN0 Hn.out hl3'.out hb (by omega) (by omega) (Nat.le_refl _) (hr.below (((hbw.trans (hbo.mono (by omega))).trans (hb3.mono (by omega))).mono hB)) hr3).mono ?_
            rintro e w4 ⟨rfl, hb4⟩
            obtain ⟨hcc4, hff4⟩ := bcell hb4
            have hs4 := hb4.size
            have hwz3 : w.heap.size < w3.heap.size := by omega
            have hlc4 : LookC w.heap.size k N A n cap w4 := ⟨(hcc4 _ _ hwz3).trans ((hcc3 _ _ hwz).trans d0), (hcc4 _ _ hwz3).trans ((hcc3 _ _ hwz).trans d1), (hcc4 _ _ hwz3).trans ((hcc3 _ _ hwz).trans d2)⟩
            have hbo4 : Below wo.heap.size wo w4 := (hbo.trans (hb3.mono hzo)).trans (hb4.mono (by omega))
            rw [← HP.out]
            obtain ⟨b, hbd⟩ : ∃ b, b = p (y.eraseIdx j) := ⟨_, rfl⟩
            rw [← hbd]
            have Hbd := hide hbd
            clear hbd
            cases b with
            | true =>
              go_wp2_with fail
              refine ⟨⟨A3, m3, c3, j, y.eraseIdx j, ak + 1, rfl, by go_num, by simp; omega, rfl, hc3, (hr3.below hb4).more hs4, by omega, by omega, ?_, by omega, hlc4, hbo4⟩, by simp [lenOf', intOf]; omega⟩
              rw [← Hpp.out, show m - j = (m3 - j) + 1 by omega]
              simp [passP, Hbd.out.symm]
            | false =>
              go_wp2_with fail
              refine ⟨⟨A2, m, c2, j + 1, y, ak + 1, rfl, by go_num, rfl, by go_num, hcp2, ((Hry.out.below hb3).below (hb4.mono hs3)).more (by omega), by omega, by omega, ?_, by omega, hlc4, hbo4⟩, by simp [lenOf', intOf]; omega⟩
              rw [← Hpp.out, show m - j = (m - (j + 1)) + 1 by omega]
              simp [passP, Hbd.out.symm]
          · obtain rfl : j = m := by omega
            have hpe : passP p x.length x 0 = y := by rw [Hx.out, ← Hpp.out, Nat.sub_self]; rfl
            have hae : ak = ask + n' := by omega
            obtain ⟨q, hq, ht1, ht2⟩ := Ht.out
            obtain ⟨q, rfl⟩ : ∃ q', q = q' + 1 := ⟨q - 1, by omega⟩
            go_wp2_with fail
            refine ⟨⟨A2, j, c2, y, decide (j < n'), ak, rfl, rfl, rfl, hcp2, Hry.out, by omega, ?_, ⟨d0, d1, d2⟩, hbw.trans (hbo.mono hzw), fun h => ?_, fun h => ?_⟩, ?_⟩
            · by_cases h : j < n'
              · simp [h]; omega
              · simp [h]; omega
            · have h : j < n' := by simpa using h
              rw [shrP_lt p q x (by rw [hpe, Hy.out, Hx.out]; exact h)] at ht1 ht2
              rw [hpe] at ht1 ht2
              exact ⟨q, by omega, ht1, by simp only [Hx.out] at ht2; omega⟩
            · have h : ¬ j < n' := by simpa using h
              rw [shrP_ge p q x (by rw [hpe, Hy.out, Hx.out]; exact h)] at ht1 ht2
              rw [hpe] at ht1
              exact ⟨ht1, by simp only [Hx.out] at ht2; omega⟩
            · by_cases h : j < n'
              · simp [lenOf', tl, h]
              · simp [lenOf', tl, h]; omega
      | false =>
        have Hf := hide (hf rfl)
        clear ht hf
        have hxx := Hf.out.1
        go_wp2
        go_ret2
        refine ⟨A', n', cap', by rw [← Hf.out.2]; rfl, ?_, ?_, hbw⟩
        · rw [← Hf.out.1]; exact Hx.out
        · rw [← Hf.out.1]; exact Hrx.out
end Go.Proofs.Ytmpbaanlagmacaa
