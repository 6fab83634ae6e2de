/- Package view: Locs; package explore: raw, views. -/
import Derived.Test.YtnnmenmifphadaaGreatDoorU04
import Derived.Test.YtnnmenmifphadaaGreatDoorU18
import Derived.Test.YtnnmenmifphadaaGreatDoorU33
set_option linter.unusedSimpArgs false
set_option linter.unusedVariables false
set_option maxRecDepth 100000
set_option maxHeartbeats 40000000
namespace Go.Proofs.YtnnmenmifphadaaGreatDoor
open Go.RowKit Go.Maps Go.Sort Go.Shelf
theorem sortsL (m : Nat) : AnyZI.SortsIn Tryz.prog Tryz.sortedL_ren Fence.wide m :=
 ⟨fun blk off cap ss W hH hblk hsz => callsIn_wide.2 (AnyM.slices_Sort_int Tryz.sortL blk off cap ss W hH hblk hsz),
  fun p cap W => callsIn_wide.2 (AnyM.slices_Sort_int_none Tryz.sortL p cap W)⟩
theorem keys_L (mb : Option Nat) (W : World) : CallsIn Fence.wide 5 Tryz.prog 151 #[.map mb] W fun e w' => e = .returned (.func (.func 166) #[] #[.pointer (some ⟨W.heap.size, 0, none⟩)]) ∧ w' = W.alloc (.cells #[.map mb] 119) :=
 AnyZI.keys_in Tryz.keysL Fence.wide 5 trivial rfl mb W
theorem sorted_L {H : Type} (b nn : Nat) (D0 : DataW H) (R : Value → Option (DataW H × List MemPlace)) (w : World) (hown : w.ownsMap Tryz.prog 63 R b nn D0) (hmax : Maps.size D0 ≤ maxLen) (hbytes : Maps.size D0 * 8 ≤ 140737488355328) :
  CallsIn Fence.wide 5 Tryz.prog 150 #[.func (.func 166) #[] #[.pointer (some ⟨w.heap.size, 0, none⟩)]] (w.alloc (.cells #[.map (some b)] 119)) fun e w' => ∃ (v : Value) (ss : List Int), e = .returned v ∧ ss.Perm (intKeys D0) ∧
   w'.ownsRow (w.alloc (.cells #[.map (some b)] 119)).heap.size 63 1 v ss.length ((ss.mergeSort (fun x y => decide (x ≤ y))).map encZ) ∧ (v = .slice none 0 0 ↔ ss = []) ∧ Below (w.alloc (.cells #[.map (some b)] 119)).heap.size (w.alloc (.cells #[.map (some b)] 119)) w' := by
 have hbl := hown.lt
 have hseq : SeqGives Fence.wide 2 Tryz.prog 166 #[.pointer (some ⟨w.heap.size, 0, none⟩)] encZ (fun ss => ss.Perm (intKeys D0)) (Maps.size D0) (w.alloc (.cells #[.map (some b)] 119)) :=
  AnyZI.keys_gives (ρ := Tryz.keysL_ren) { Tryz.keysL with } Fence.wide _ trivial rfl oM w.heap.size b nn D0 _ sM sM (by
   obtain ⟨es, clock, hb, Ft, hs, hD⟩ := hown
   exact ⟨es, clock, (Below.heap_alloc _ _ b hbl).trans hb, Ft, hs, hD⟩)
 exact AnyZI.sorted_in Tryz.sortedL Fence.wide 5 trivial trivial trivial trivial rfl oM (sortsL _) (enters_of Tryz.func165 kR rfl) 166 #[.pointer (some ⟨w.heap.size, 0, none⟩)] trivial (enters_of Tryz.func166 kR rfl) _ _ hmax hbytes _ hseq
theorem sorted_Ln (w : World) :
  CallsIn Fence.wide 5 Tryz.prog 150 #[.func (.func 166) #[] #[.pointer (some ⟨w.heap.size, 0, none⟩)]] (w.alloc (.cells #[.map none] 119)) fun e w' => ∃ (v : Value) (ss : List Int), e = .returned v ∧ ss = [] ∧
   w'.ownsRow (w.alloc (.cells #[.map none] 119)).heap.size 63 1 v ss.length ((ss.mergeSort (fun x y => decide (x ≤ y))).map encZ) ∧ (v = .slice none 0 0 ↔ ss = []) ∧ Below (w.alloc (.cells #[.map none] 119)).heap.size (w.alloc (.cells #[.map none] 119)) w' := by
 have hseq : SeqGives Fence.wide 2 Tryz.prog 166 #[.pointer (some ⟨w.heap.size, 0, none⟩)] encZ (fun ss : List Int => ss = []) 0 (w.alloc (.cells #[.map none] 119)) :=
  AnyZI.keys_gives_nil (ρ := Tryz.keysL_ren) { Tryz.keysL with } Fence.wide _ trivial rfl w.heap.size _ sM sM
 exact AnyZI.sorted_in Tryz.sortedL Fence.wide 5 trivial trivial trivial trivial rfl oM (sortsL _) (enters_of Tryz.func165 kR rfl) 166 #[.pointer (some ⟨w.heap.size, 0, none⟩)] trivial (enters_of Tryz.func166 kR rfl) _ 0 (Nat.zero_le _) oM _ hseq
theorem locs_some {H : Type} (b nn : Nat) (D0 : DataW H) (R : Value → Option (DataW H × List MemPlace)) (w : World) (hown : w.ownsMap Tryz.prog 63 R b nn D0) (hmax : Maps.size D0 ≤ maxLen) (hbytes : Maps.size D0 * 8 ≤ 140737488355328) :
  Calls Tryz.prog 121 #[.agg #[.map (some b)]] w fun e w' => ∃ (v : Value) (ss : List Int), e = .returned v ∧ ss.Perm (intKeys D0) ∧
   w'.ownsRow w.heap.size 63 1 v ss.length ((ss.mergeSort (fun x y => decide (x ≤ y))).map encZ) ∧ (v = .slice none 0 0 ↔ ss = []) ∧ Below w.heap.size w w' := by
 have hbl := hown.lt
 have hown1 : (w.alloc (.cells #[.map (some b)] 121)).ownsMap Tryz.prog 63 R b nn D0 := by
  obtain ⟨es, clock, hb, Ft, hs, hD⟩ := hown
  exact ⟨es, clock, (Below.heap_alloc _ _ b hbl).trans hb, Ft, hs, hD⟩
 have cS := sorted_L b nn D0 R (w.alloc (.cells #[.map (some b)] 121)) hown1 hmax hbytes
 rw [show (w.alloc (.cells #[.map (some b)] 121)).heap.size = w.heap.size + 1 by simp] at cS
 refine (callsIn_wide (n := 6)).1 ?_
 have hfK : Fence.wide.fn 151 := trivial
 have hfS : Fence.wide.fn 150 := trivial
 have HcS := hide cS
 clear cS hown1 hown hmax hbytes hbl
 refine callsIn_of_wp Tryz.func121 rfl trivial ?_ rfl
 simp only [Tryz.ntmps121, List.size_toArray, List.length_cons, List.length_nil, Nat.reduceAdd, Nat.reduceSub, Array.replicate_succ, Array.replicate_zero, List.push_toArray, List.append_toArray, List.nil_append, List.cons_append]
 gi_wp2_with (first
  | (gi_at_call 151; refine (keys_L _ _).mono ?_; rintro e w1 ⟨rfl, rfl⟩)
  | (gi_at_call 150; refine HcS.out.mono ?_; rintro e w2 ⟨v, ss, rfl, hS, hrow, hnil, hb⟩))
 go_ret
 exact ⟨v, ss, rfl, hS, ownsRow_base_a hrow (by simp; omega), hnil, (((Below.refl _ w).alloc (Nat.le_refl _) _).alloc sM _).trans (hb.mono (by simp; omega))⟩
theorem locs_none (w : World) :
  Calls Tryz.prog 121 #[.agg #[.map none]] w fun e w' => ∃ (v : Value), e = .returned v ∧ v = .slice none 0 0 ∧ Below w.heap.size w w' := by
 have cS := sorted_Ln (w.alloc (.cells #[.map none] 121))
 rw [show (w.alloc (.cells #[.map none] 121)).heap.size = w.heap.size + 1 by simp] at cS
 refine (callsIn_wide (n := 6)).1 ?_
 have hfK : Fence.wide.fn 151 := trivial
 have hfS : Fence.wide.fn 150 := trivial
 have HcS := hide cS
 clear cS
 refine callsIn_of_wp Tryz.func121 rfl trivial ?_ rfl
 simp only [Tryz.ntmps121, List.size_toArray, List.length_cons, List.length_nil, Nat.reduceAdd, Nat.reduceSub, Array.replicate_succ, Array.replicate_zero, List.push_toArray, List.append_toArray, List.nil_append, List.cons_append]
 gi_wp2_with (first
  | (gi_at_call 151; refine (keys_L _ _).mono ?_; rintro e w1 ⟨rfl, rfl⟩)
  | (gi_at_call 150; refine HcS.out.mono ?_; rintro e w2 ⟨v, ss, rfl, hS, hrow, hnil, hb⟩))
 go_ret
 exact ⟨v, rfl, hnil.2 hS, (((Below.refl _ w).alloc (Nat.le_refl _) _).alloc sM _).trans (hb.mono (by simp; omega))⟩
end Go.Proofs.YtnnmenmifphadaaGreatDoor
namespace Go.Proofs.YtnnmenmifphadaaGreatDoor
open Go.RowKit Go.Maps Go.Sort
def locsF (L : Nat) (f : Int → Int) : List Int := ((List.range L).map (fun (i : Nat) => (i : Int))).filter (fun z => decide (f z ≠ 0))
theorem locsF_mem {L : Nat} {f : Int → Int} {z : Int} : z ∈ locsF L f ↔ (0 ≤ z ∧ z < (L : Int)) ∧ f z ≠ 0 := by
 unfold locsF
 rw [List.mem_filter, List.mem_map]
 simp only [decide_eq_true_eq, List.mem_range]
 constructor
 ·rintro ⟨⟨i, hi, rfl⟩, h⟩
  exact ⟨⟨by omega, by omega⟩, h⟩
 ·rintro ⟨⟨h0, h1⟩, h⟩
  exact ⟨⟨z.toNat, by omega, by omega⟩, h⟩
theorem locsF_lt (L : Nat) (f : Int → Int) : (locsF L f).Pairwise (fun x y => x < y) := by
 unfold locsF
 refine List.Pairwise.filter _ ?_
 rw [List.pairwise_map]
 exact (List.pairwise_lt_range (n := L)).imp (fun h => by omega)
theorem locs_sorted {L : Nat} {f : Int → Int} {D : DataW Unit} {ss : List Int} (ht : Tidy D) (hk : KeysIn D L) (hf : ∀ z, (Lit.int .i64 z).wf = true → D.atKey (.int .i64 z) (.lit (.int .i64 0)) = .lit (.int .i64 (f z))) (hL : L ≤ 4096) (hp : ss.Perm (intKeys D)) : ss.mergeSort (fun x y => decide (x ≤ y)) = locsF L f := by
 obtain ⟨es, rfl, hpw⟩ := ht
 have hkey : ∀ p ∈ es, ∃ x, p.1 = .int .i64 x := by
  intro p hp
  obtain ⟨es', e, he⟩ := hk
  injection e with e
  subst e
  obtain ⟨x, e, _⟩ := good_key (by simpa using List.any_eq_false.1 he p hp)
  exact ⟨x, e⟩
 have hperm : (locsF L f).Perm (intKeys (.map es)) := perm_intKeys hpw hkey ((locsF_lt L f).imp (fun h => by omega)) (fun x => by
  rw [locsF_mem]
  constructor
  ·rintro ⟨⟨h0, h1⟩, h⟩
   exact hk.has_of (hf x (wf_loc h0 h1 hL)) h
  ·intro h
   obtain ⟨y, e, h0, h1⟩ := hk.has h
   injection e with _ e
   subst e
   refine ⟨⟨h0, h1⟩, ?_⟩
   have := hk.pos h (hf x (wf_loc h0 h1 hL))
   omega)
 rw [mergeSort_of_perm_i (hp.trans hperm.symm)]
 exact List.mergeSort_of_pairwise ((locsF_lt L f).imp (fun h => by simp only [leI, decide_eq_true_eq]; omega))
theorem view_locs (L : Nat) (hL : L ≤ 4096) (a : VwV) (w : World) (h : a.R L w) : Calls Tryz.prog 121 #[.agg #[.map a.v]] w fun e w' => ∃ v : Value, e = .returned v ∧ w'.ownsRow w.heap.size 63 1 v (locsF L a.f).length ((locsF L a.f).map (Value.int .i64)) ∧ Below w.heap.size w w' := by
 obtain ⟨v, f⟩ := a
 obtain ⟨h0, hR⟩ := h
 simp only at h0 hR
 rcases hR with ⟨rfl, hf⟩ | ⟨b, D, rfl, hown, hi, hf, -⟩
 ·refine (locs_none w).mono ?_
  rintro e w' ⟨v, rfl, rfl, hb⟩
  have hz : locsF L f = [] := by
   refine List.eq_nil_iff_forall_not_mem.2 fun z hz => ?_
   exact (locsF_mem.1 hz).2 (hf z)
  refine ⟨_, rfl, ?_, hb⟩
  simp only [hz]
  exact World.ownsRow_nil _ _ _ _
 ·have hsz := size_le L (hown.tidy law_loc) hi
  refine (locs_some b L D (plainElem Tryz.prog 3) w hown (by unfold maxLen; omega) oM).mono ?_
  rintro e w' ⟨v, ss, rfl, hp, hrow, _, hb⟩
  have hs := locs_sorted (hown.tidy law_loc) hi hf hL hp
  have hl : ss.length = (locsF L f).length := by rw [← hs]; exact ((List.mergeSort_perm ss _).length_eq).symm
  rw [hs, hl] at hrow
  exact ⟨v, rfl, hrow, hb⟩
end Go.Proofs.YtnnmenmifphadaaGreatDoor
