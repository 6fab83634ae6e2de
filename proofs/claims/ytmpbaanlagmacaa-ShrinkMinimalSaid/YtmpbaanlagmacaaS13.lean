/- The reference of layer 60: without, Least, Minimal; the law's comparison of the two types. -/
import Derived.Test.YtmpbaanlagmacaaS12
import Derived.Test.YtmpbaanlagmacaaAp
import Derived.Deep.RegionHeld3
namespace Go.Proofs.Ytmpbaanlagmacaa
open Go.RowKit

set_option maxHeartbeats 1000000 in
set_option maxRecDepth 100000 in
theorem rwithout_any (A : Option Addr) (n cap i : Nat) (l : List Pk) (B : Nat) (w : World) (hl : l.length = n) (hn : n ≤ 1000) (hcap : n ≤ cap) (hin : i < n)
    (hB : B ≤ w.heap.size) (hr : Rd w B 3 A n (l.flatMap pkc)) :
    Calls Try.prog 52 #[.slice A n cap, .int .i64 i] w fun e w' => ∃ A' n' cap', e = .returned (.slice A' n' cap') ∧ w'.ownsRow w.heap.size 92 3 (.slice A' n' cap') n' ((l.eraseIdx i).flatMap pkc) ∧ (l.eraseIdx i).length = n' ∧ Below w.heap.size w w' := by
  obtain ⟨i0, hi, iz0, iz1, iz2⟩ := info_parts info_pickR
  have ea : IntKind.i64.wrap ((i : Int) + 1) = (i : Int) + 1 := IntWalk.i64_in _ (by omega)
  obtain ⟨b, off, rfl, hb, hcA⟩ := hr.at_ hin
  have hflat : l.flatMap pkc = (l.take i).flatMap pkc ++ (l.drop i).flatMap pkc := by rw [← List.flatMap_append, List.take_append_drop]
  have hflat2 : l.flatMap pkc = (l.take (i + 1)).flatMap pkc ++ (l.drop (i + 1)).flatMap pkc := by rw [← List.flatMap_append, List.take_append_drop]
  have hL1 : ((l.take i).flatMap pkc).length = i * 3 := by rw [pkc_flat, List.length_take, hl, Nat.min_eq_left (by omega)]
  have hL1' : ((l.take (i + 1)).flatMap pkc).length = (i + 1) * 3 := by rw [pkc_flat, List.length_take, hl, Nat.min_eq_left (by omega)]
  have hL2 : ((l.drop (i + 1)).flatMap pkc).length = (n - (i + 1)) * 3 := by rw [pkc_flat, List.length_drop, hl]
  have HR1 : Hid (Rd w B 3 (some ⟨b, off, none⟩) i ((l.take i).flatMap pkc)) := hide ⟨hL1, fun _ => ⟨b, off, rfl, hb, fun j u hu => hcA j u (by rw [hflat, List.getElem?_append_left (List.getElem?_eq_some_iff.1 hu).1]; exact hu)⟩⟩
  have HR2 : Hid (Rd w B 3 (some ⟨b, off + (i + 1) * 3, none⟩) (n - (i + 1)) ((l.drop (i + 1)).flatMap pkc)) := hide ⟨hL2, fun _ => ⟨b, _, rfl, hb, fun j u hu => by
    rw [Nat.add_assoc]
    refine hcA _ u ?_
    rw [hflat2, List.getElem?_append_right (by omega), hL1', Nat.add_sub_cancel_left]
    exact hu⟩⟩
  have HR3 : Hid (cap = i + 1 → Rd w B 3 (some ⟨b, off, none⟩) (n - (i + 1)) ((l.drop (i + 1)).flatMap pkc)) := hide fun h => ⟨hL2, fun h2 => by omega⟩
  have Her : Hid ((l.take i).flatMap pkc ++ (l.drop (i + 1)).flatMap pkc = (l.eraseIdx i).flatMap pkc) := hide (by rw [List.eraseIdx_eq_take_drop_succ, List.flatMap_append])
  have Hel : Hid ((l.eraseIdx i).length = i + (n - (i + 1))) := hide (by rw [List.length_eraseIdx_of_lt (by omega)]; omega)
  have h0i : (0 : Int) ≤ (i : Int) + 1 := by omega
  have hci : ((i : Int) + 1).toNat = i + 1 := by omega
  have hic : i ≤ cap := by omega
  have hic2 : i + 1 ≤ n := by omega
  have hnc : n ≤ cap := hcap
  have Hl := hide hl
  clear hflat hflat2 hL1 hL1' hL2 hcA hr hl
  by_cases hcc : cap = i + 1
  · obtain rfl : n = i + 1 := by omega
    subst hcc
    have Her2 : Hid ((l.take i).flatMap pkc = (l.eraseIdx i).flatMap pkc) := hide (by rw [← Her.out, List.drop_eq_nil_of_le (by rw [Hl.out]; omega)]; simp)
    go_enter Try.func52, Try.ntmps52
    go_wp2_with (at_builtin; (refine wpList_append_rd rfl _ _ 67 rfl w.heap.size 92 i0 _ 3 24 Try.underlying67 hi iz0 iz1 iz2 rfl (by decide) (.slice none 0 0) 0 [] rfl (World.ownsRow_nil _ _ _ _) (some ⟨b, off, none⟩) i (i + 1) _ rfl B HR1.out (pkc_ones _) ?o1 ?o2 (Nat.le_refl _) w.heap.size w (Below.refl _ _) (Nat.le_refl _) ?_))
    case o1 => unfold maxLen; omega
    case o2 => omega
    intro v1 w1 hown1 hb1 hz1
    go_wp2_with (at_builtin; (refine wpList_append_rd rfl _ _ 67 rfl w.heap.size 92 i0 _ 3 24 Try.underlying67 hi iz0 iz1 iz2 rfl (by decide) v1 i _ rfl hown1 (some ⟨b, off, none⟩) 0 0 [] rfl B (Rd.nil _ _ _ _) (by simp) ?o1 ?o2 hz1 w.heap.size w hb1 (Nat.le_refl _) ?_))
    case o1 => unfold maxLen; omega
    case o2 => omega
    intro v2 w2 hown2 hb2 hz2
    rw [Her2.out] at hown2
    obtain ⟨A', cap', rfl, _⟩ := own_slice hown2
    clear hown1
    go_wp2
    go_ret
    exact ⟨A', _, cap', rfl, hown2, by rw [Hel.out]; omega, hb2⟩
  · have hcd : i + 1 < cap := by omega
    go_enter Try.func52, Try.ntmps52
    go_wp2_with (at_builtin; (refine wpList_append_rd rfl _ _ 67 rfl w.heap.size 92 i0 _ 3 24 Try.underlying67 hi iz0 iz1 iz2 rfl (by decide) (.slice none 0 0) 0 [] rfl (World.ownsRow_nil _ _ _ _) (some ⟨b, off, none⟩) i cap _ rfl B HR1.out (pkc_ones _) ?o1 ?o2 (Nat.le_refl _) w.heap.size w (Below.refl _ _) (Nat.le_refl _) ?_))
    case o1 => unfold maxLen; omega
    case o2 => omega
    intro v1 w1 hown1 hb1 hz1
    go_wp2_with (at_builtin; (refine wpList_append_rd rfl _ _ 67 rfl w.heap.size 92 i0 _ 3 24 Try.underlying67 hi iz0 iz1 iz2 rfl (by decide) v1 i _ rfl hown1 (some ⟨b, off + (i + 1) * 3, none⟩) (n - (i + 1)) (cap - (i + 1)) _ rfl B (HR2.out.below (hb1.mono hB)) (pkc_ones _) ?o1 ?o2 hz1 w.heap.size w hb1 (Nat.le_refl _) ?_))
    case o1 => unfold maxLen; omega
    case o2 => omega
    intro v2 w2 hown2 hb2 hz2
    rw [Her.out] at hown2
    obtain ⟨A', cap', rfl, _⟩ := own_slice hown2
    clear hown1
    go_wp2
    go_ret
    exact ⟨A', _, cap', rfl, hown2, by rw [Hel.out], hb2⟩

end Go.Proofs.Ytmpbaanlagmacaa
