/- slices.Sorted(maps.Keys(m)) at strings; package explore: begun, told. -/
import Derived.Test.YtnnmenmifphadaaGreatDoorU04
import Derived.Test.YtnnmenmifphadaaGreatDoorU16
set_option linter.unusedSimpArgs false
set_option linter.unusedVariables false
set_option maxRecDepth 100000
set_option maxHeartbeats 40000000
namespace Go.Proofs.YtnnmenmifphadaaGreatDoor
open Go.RowKit Go.Maps Go.Sort Go.Shelf
theorem sortsS (m : Nat) : AnyZ.SortsIn Tryz.prog Tryz.sortedS_ren Fence.wide m :=
 ⟨fun blk off cap ss W hH hblk hsz => callsIn_wide.2 (AnyM.slices_Sort_string Tryz.sortS blk off cap ss W hH hblk hsz),
  fun p cap W => callsIn_wide.2 (AnyM.slices_Sort_string_none Tryz.sortS p cap W)⟩
theorem keys_S (mb : Option Nat) (W : World) : CallsIn Fence.wide 5 Tryz.prog 57 #[.map mb] W fun e w' => e = .returned (.func (.func 93) #[] #[.pointer (some ⟨W.heap.size, 0, none⟩)]) ∧ w' = W.alloc (.cells #[.map mb] 44) :=
 AnyZ.keys_in Tryz.keysS Fence.wide 5 trivial rfl mb W
theorem sorted_S {H : Type} (Bm b nn : Nat) (D0 : DataW H) (R : Value → Option (DataW H × List MemPlace)) (w : World) (hm : w.cell? ⟨Bm, 0, none⟩ = some (.map (some b))) (hown : w.ownsMap Tryz.prog 9 R b nn D0) (hmax : Maps.size D0 ≤ maxLen) (hbytes : Maps.size D0 * 16 ≤ 140737488355328) :
  Calls Tryz.prog 56 #[.func (.func 93) #[] #[.pointer (some ⟨Bm, 0, none⟩)]] w fun e w' => ∃ (v : Value) (ss : List (List UInt8)), e = .returned v ∧ ss.Perm (strKeys D0) ∧
   w'.ownsRow w.heap.size 9 1 v ss.length ((ss.mergeSort (fun x y => decide (x ≤ y))).map encStr) ∧ (v = .slice none 0 0 ↔ ss = []) ∧ Below w.heap.size w w' := by
 refine (callsIn_wide (n := 5)).1 ?_
 have hseq : SeqGives Fence.wide 2 Tryz.prog 93 #[.pointer (some ⟨Bm, 0, none⟩)] encStr (fun ss => ss.Perm (strKeys D0)) (Maps.size D0) w :=
  AnyZ.keys_gives (ρ := Tryz.keysS_ren) { Tryz.keysS with } Fence.wide _ trivial rfl oM Bm b nn D0 _ (World.block_lt_of_cell? w ⟨Bm, 0, none⟩ hm) hm hown
 exact AnyZ.sorted_in Tryz.sortedS Fence.wide 5 trivial trivial trivial trivial rfl oM (sortsS _) (enters_of Tryz.func26 kR rfl) 93 #[.pointer (some ⟨Bm, 0, none⟩)] trivial (enters_of Tryz.func93 kR rfl) _ _ hmax hbytes _ hseq
theorem keys_S2 (mb : Option Nat) (W : World) : Calls Tryz.prog 57 #[.map mb] W fun e w' => ∃ Bm, e = .returned (.func (.func 93) #[] #[.pointer (some ⟨Bm, 0, none⟩)]) ∧ (w'.cell? ⟨Bm, 0, none⟩ = some (.map mb)) ∧ Below W.heap.size W w' := by
 refine ((callsIn_wide (n := 5)).1 (keys_S mb W)).mono ?_
 rintro e w' ⟨rfl, rfl⟩
 exact ⟨_, rfl, by simp, Below.alloc (Below.refl _ _) (Nat.le_refl _) _⟩
theorem ex_begun (most : Int) (w : World) : Calls Tryz.prog 23 #[.int .i64 most] w fun e w' => e = .returned (.pointer (some ⟨w.heap.size + 1 + 1, 0, none⟩)) ∧ w' = ((w.alloc (.map #[] 0)).alloc (.map #[] 0)).alloc (.cells #[.int .i64 most, .map (some w.heap.size), .map (some (w.heap.size + 1))] 136) := by
 have hmm := @run_makeMap Tryz.prog
 go_enter Tryz.func23, Tryz.ntmps23
 go_wp2_with fail
 go_ret
 exact ⟨by simp, by simp⟩
def nilS (v : Value) : Option (DataW Unit × List MemPlace) := match v with
 | .slice none 0 0 => some (.lit (.bool true), [])
 | _ => none
def Walk (kb b1 b2 : Nat) (most : Int) (n : Nat) (S F : DataW Unit) (w : World) : Prop :=
 w.heap[kb]? = some (.cells #[.int .i64 most, .map (some b1), .map (some b2)] 136 (0, 0)) ∧ b1 ≠ b2 ∧ kb ≠ b1 ∧ kb ≠ b2
  ∧ w.ownsMap Tryz.prog 9 nilS b1 n S ∧ w.ownsMap Tryz.prog 9 (plainElem Tryz.prog 4) b2 n F
theorem Walk.below {kb b1 b2 n : Nat} {most : Int} {S F : DataW Unit} {w w' : World} (h : Walk kb b1 b2 most n S F w) (hb : Below w.heap.size w w') : Walk kb b1 b2 most n S F w' := by
 obtain ⟨h1, h2, h3, h4, h5, h6⟩ := h
 exact ⟨(hb.block kb (Array.getElem?_eq_some_iff.1 h1).1).trans h1, h2, h3, h4, h5.kept (grown_of_below hb none) sM, h6.kept (grown_of_below hb none) sM⟩
theorem Walk.c0 {kb b1 b2 n : Nat} {most : Int} {S F : DataW Unit} {w : World} (h : Walk kb b1 b2 most n S F w) : w.cell? ⟨kb, 0, none⟩ = some (.int .i64 most) := by simp [World.cell?, h.1]
theorem Walk.c1 {kb b1 b2 n : Nat} {most : Int} {S F : DataW Unit} {w : World} (h : Walk kb b1 b2 most n S F w) : w.cell? ⟨kb, 1, none⟩ = some (.map (some b1)) := by simp [World.cell?, h.1]
theorem Walk.c2 {kb b1 b2 n : Nat} {most : Int} {S F : DataW Unit} {w : World} (h : Walk kb b1 b2 most n S F w) : w.cell? ⟨kb, 2, none⟩ = some (.map (some b2)) := by simp [World.cell?, h.1]
theorem Walk.len {kb b1 b2 n : Nat} {most : Int} {S F : DataW Unit} {w : World} (h : Walk kb b1 b2 most n S F w) (ty : TypeId) : (Builtin.len_ #[134] ty #[.map (some b1)]).run Tryz.prog w = .ok (.int .i64 (Maps.size S)) w := h.2.2.2.2.1.len Tryz.underlying134 ty
theorem Walk.drew {kb b1 b2 n : Nat} {most : Int} {S F : DataW Unit} {w : World} (h : Walk kb b1 b2 most n S F w) : Walk kb b1 b2 most n S F w.drew := h.below (Below.drew (Below.refl _ _))
theorem ex_told_no (p : Value) (w : World) : Calls Tryz.prog 24 #[p, .bool false] w fun e w' => e = .returned (.tuple #[.slice none 0 0, .int .i64 0, .int .i64 15]) ∧ w' = w := by
 go_enter Tryz.func24, Tryz.ntmps24
 go_wp2_with fail
 exact bodyPost_ret (v := .tuple #[.slice none 0 0, .int .i64 0, .int .i64 15]) (by simp [results, Tryz.results24, go_sem]) rfl ⟨rfl, rfl⟩
theorem ex_told (kb b1 b2 n : Nat) (most : Int) (S F : DataW Unit) (w : World) (h : Walk kb b1 b2 most n S F w) (hn : n ≤ 1000000) :
  Calls Tryz.prog 24 #[.pointer (some ⟨kb, 0, none⟩), .bool true] w fun e w' => ∃ (v : Value) (ss : List (List UInt8)), e = .returned (.tuple #[v, .int .i64 (Maps.size S), .int .i64 0]) ∧ ss.Perm (strKeys F) ∧ w'.ownsRow w.heap.size 9 1 v ss.length ((ss.mergeSort (fun x y => decide (x ≤ y))).map encStr) ∧ Below w.heap.size w w' := by
 have hF : Maps.size F ≤ n := h.2.2.2.2.2.size_le
 have hkeys := fun W => keys_S2 (some b2) W
 have hsort := fun Bm W (hm : W.cell? ⟨Bm, 0, none⟩ = some (.map (some b2))) (hW : Below w.heap.size w W) => sorted_S Bm b2 n F (plainElem Tryz.prog 4) W hm ((h.below hW).2.2.2.2.2) (by unfold maxLen; omega) oM
 have Hkeys := hide hkeys
 have Hsort := hide hsort
 clear hkeys hsort hF
 go_enter Tryz.func24, Tryz.ntmps24
 go_wp2_with fail
 refine wp_region_held_drew (S := (fun W => Walk kb b1 b2 most n S F W)) kR ab19 (fun hHeld => ?_)
 refine tq0 0 ?_
 refine tq0 1 ?_
 refine tq0 2 ?_
 refine tq0 3 ?_
 refine tq0 6 ?_
 refine tq0 7 ?_
 refine tq0 8 ?_
 refine tq0 9 ?_
 refine wE 4 fun K hK => ?_
 go_simp
 (go_at_call 57; refine (Hkeys.out _).mono ?_; rintro e w1 ⟨Bm, rfl, hm1, hb1'⟩; have hb1 : Below _ _ w1 := (by first | with_reducible exact noDrew hb1' | exact hb1'); have hsw1 := (hb1).size; (try simp at hsw1))
 go_wp2_with fail
 refine oK hK ab19 fun hHeld => ?_
 clear hK K
 refine wE 5 fun K hK => ?_
 go_simp
 (go_at_call 56; refine (Hsort.out _ _ hm1 ab0).mono ?_; rintro e w2 ⟨v, ss, rfl, hp, hrow, -, hb2'⟩; have hb2 : Below _ _ w2 := ab15; have hsw2 := (hb2).size; (try simp at hsw2))
 go_wp2_with fail
 refine oK hK ab19 fun hHeld => ?_
 clear hK K
 refine tq0 10 ?_
 refine tq0 11 ?_
 refine tq0 12 ?_
 refine tq0 13 ?_
 refine wD ?_
 all_goals go_wp2_with fail
 all_goals refine bodyPost_ret (v := .tuple #[v, .int .i64 (Maps.size S), .int .i64 0]) (by simp [results, Tryz.results24, go_sem]) rfl ⟨v, ss, rfl, hp, ownsRow_base_a hrow hsw1, hb1.trans (hb2.mono hsw1)⟩
end Go.Proofs.YtnnmenmifphadaaGreatDoor
