/- Law 59: sorted gives a set's strings in order. -/
import Derived.Maps.RangeWalk
import Derived.Sort.KeysCollected
import Derived.Sort.OwnSorted
import Derived.Test.YtnnmenmifphadaaGreatDoorT19
set_option linter.unusedSimpArgs false
set_option linter.unusedVariables false
set_option maxRecDepth 100000
set_option maxHeartbeats 40000000
namespace Go.Proofs.YtnnmenmifphadaaGreatDoor
open Go.RowKit Go.Maps Go.Sort
theorem info_str : (Tryz.prog.info? 9).map (fun i => (i.zero, i.size, i.bytes)) = some (some (.string ⟨#[]⟩), 1, 16) := by kernel_rfl
theorem law_sorted (b n : Nat) (D : DataW Unit) (w : World) (hown : w.ownsMap Tryz.prog 9 (plainElem Tryz.prog 4) b n D) (hmax : Maps.size D ≤ 1000000) :
  Calls Tryz.prog 12 #[.map (some b)] w fun e w' => ∃ (v : Value) (ss : List (List UInt8)), e = .returned v ∧ ss.Perm (strKeys D) ∧ w'.ownsRow w.heap.size 9 1 v ss.length ((ss.mergeSort (fun x y => decide (x ≤ y))).map encStr) ∧ Below w.heap.size w w' := by
 obtain ⟨i0, hi, hz0, hz1, hz2⟩ := info_parts info_str
 have Hi := hide hi
 have hbl := hown.lt
 have Hown := hide hown
 clear hown hi
 go_enter Tryz.func12, Tryz.ntmps12
 go_wp2_with (first
  | (at_range; refine wpList_range_own _ rfl _ 44 rfl 9 4 (string_keyed Tryz.underlying9) Tryz.underlying44 _ b n _ rfl Hown.out ?_; intro w0 hrg0 hg0 hs0))
 go_frame
 have hB0 : Below w.heap.size w w0 := (Below.refl _ _).grown hg0 (Nat.le_refl _) (fun j hj => by cases hj)
 have Hrg0 := hide hrg0
 have HB0 := hide hB0
 clear hs0 hg0 hrg0 hB0
 go_loopw [3] (fun v wr => ∃ (left : Lit → Bool) (cnt : Nat) (ss : List (List UInt8)), Hid (wr.ranges Tryz.prog 9 (plainElem Tryz.prog 4) b w.heap.size n D left cnt) ∧ ss.length + cnt ≤ Maps.size D ∧ Hid (wr.ownsRow w.heap.size 9 1 v ss.length (ss.map encStr)) ∧ Hid (Collected D left ss) ∧ Hid (Below w.heap.size w wr)) (fun _ wr => wr.rangeLeft b w.heap.size)
 case atStart => exact ⟨_, _, [], Hrg0, by simp, hide (World.ownsRow_nil _ _ _ _), hide (Collected.start D), HB0⟩
 case round =>
  obtain ⟨left, cnt, ss, Hrg, hcs, Hrow, HC, Hnx⟩ := hrel
  go_wp2_with (first
   | (at_next; refine wpList_next_ranges _ rfl _ rfl 9 (string_keyed Tryz.underlying9) (plainElem Tryz.prog 4) encStr (fun v : Value => v) (fun key kl hk => by obtain ⟨x, hx, _⟩ := Maps.keyOf_str Tryz.underlying9 hk; exact ⟨x, hx⟩) (fun v y hv => ⟨v, rfl⟩) b w.heap.size n _ _ _ rfl Hrg.out ?_ ?_))
  ·intro hc0 hl0
   have hperm := HC.out.perm Hown.out (string_keyed Tryz.underlying9) Tryz.underlying9 hl0
   have Hperm := hide hperm
   clear hl0 hperm
   rcases Hrow.out.2 with ⟨rfl, hnil⟩ | ⟨g, cap, cur, rfl, hbase, hb, h1, h2, h3, h4⟩
   ·obtain rfl : ss = [] := List.eq_nil_of_length_eq_zero hnil
    have hsort := fun W => AnyM.slices_Sort_string_none Tryz.sortS none 0 W
    have Hsort := hide hsort
    clear hsort
    go_wp2_with (go_at_call 26; refine (Hsort.out _).mono ?_; rintro e w' ⟨rfl, h9⟩; have h9 := h9.symm; subst h9)
    go_ret
    exact ⟨_, [], rfl, Hperm.out, by simpa using World.ownsRow_nil wr w.heap.size 9 1, Hnx.out⟩
   ·have hH : Holds encStr wr g 0 ss.toArray := holds_of_block hb (by simpa using h4)
    have hgl : g < wr.heap.size := (Array.getElem?_eq_some_iff.1 hb).1
    have hsort := AnyM.slices_Sort_string Tryz.sortS g 0 cap ss wr hH hgl oM
    have Hsort := hide hsort
    have Hb := hide hb
    have H4 := hide h4
    clear hsort hH hb h4
    go_wp2_with (go_at_call 26; refine Hsort.out.mono ?_; rintro e w' ⟨rfl, nn, os, rfl⟩)
    go_ret
    exact ⟨_, ss, rfl, Hperm.out, ownsRow_sorted sM hbase Hb.out h1 h2 h3, Hnx.out.grown (grownBy_sorted _) Hnx.out.size (fun j hj => by cases hj; exact hbase)⟩
  ·intro x c kl y ys w2 cnt2 hkey hlk hv hat hrg2 hlt hg2 hs2 hen
   obtain ⟨x', ex, rfl, _⟩ := Maps.keyOf_str Tryz.underlying9 hkey
   obtain rfl : x = x' := encStr_inj ex
   have Hrow2 := hide (Hrow.out.kept hg2 (Or.inr (row_ne_iter Hrow.out Hrg.out).symm))
   have Hrg2 := hide hrg2
   have hB2 : Below w.heap.size w w2 := Hnx.out.grown hg2 Hnx.out.size (fun j hj => by cases hj; exact Nat.le_refl _)
   have HB2 := hide hB2
   have Hst := hide (HC.out.step hlk hat)
   have hsz2 : w.heap.size ≤ w2.heap.size := hB2.size
   have hi := Hi.out
   clear hs2 hg2 hrg2 hB2 hkey hv hat hlk ex
   go_wp2_with (at_builtin; (refine wpList_append_own _ rfl _ _ 47 rfl w.heap.size 9 i0 (.string ⟨#[]⟩) 1 16 Tryz.underlying47 hi hz0 hz1 hz2 rfl dM _ _ _ rfl (Hrow2.out.alloc _) ⟨w2.heap.size, 0, none⟩ 1 1 [encStr x] rfl rfl (cell_one_new _ _ _) (by simp [Value.oneCell', encStr]) (by unfold maxLen; omega) oM (by simp; omega) ?_))
   intro v' w3 hown' hg3 hnil3
   have hrg3 := (Hrg2.out.alloc _).kept hg3 (row_ne_low Hrow2.out hbl) (row_ne_iter Hrow2.out Hrg2.out)
   have HB3 : Hid (Below w.heap.size w w3) := hide ((HB2.out.alloc hsz2 _).grown hg3 (by simp; omega) (fun j hj => (Hrow2.out.lt j hj).1))
   have Hown3 : Hid (w3.ownsRow w.heap.size 9 1 v' (ss ++ [x]).length ((ss ++ [x]).map encStr)) := hide (by simpa using hown')
   have Hrg3 := hide hrg3
   have hleft : w3.rangeLeft b w.heap.size < wr.rangeLeft b w.heap.size := by rw [hrg3.left_eq, Hrg.out.left_eq]; exact hlt
   clear hown' hg3 hnil3 hrg3 hi
   go_wp2_with fail
   exact ⟨⟨_, cnt2, ss ++ [x], Hrg3, by simp; omega, Hown3, Hst, HB3⟩, hleft⟩
end Go.Proofs.YtnnmenmifphadaaGreatDoor
