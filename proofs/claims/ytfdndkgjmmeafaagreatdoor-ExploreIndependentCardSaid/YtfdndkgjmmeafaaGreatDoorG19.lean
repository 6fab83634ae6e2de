/- slices.Sorted(maps.Keys(m)) at strings; package explore: begun, told. -/
import Derived.CallsIn
import Derived.Maps.OwnSet
import Derived.Deep.RegionHeld
import Derived.Test.YtfdndkgjmmeafaaGreatDoorG04
import Derived.Test.YtfdndkgjmmeafaaGreatDoorG05
import Derived.Test.YtfdndkgjmmeafaaGreatDoorG15
namespace Go.Proofs.YtfdndkgjmmeafaaGreatDoor
set_option linter.unusedSimpArgs false
set_option linter.unusedVariables false
open Go.RowKit Go.Maps Go.Sort Go.Shelf
/-- slices.Sort's two contracts, at the fence that asks nothing. -/
theorem sortsS (m : Nat) : AnyZ.SortsIn Tryz.prog Tryz.sortedS_ren Fence.wide m :=
  ⟨fun blk off cap ss W hH hblk hsz => callsIn_wide.2 (AnyM.slices_Sort_string Tryz.sortS blk off cap ss W hH hblk hsz),
   fun p cap W => callsIn_wide.2 (AnyM.slices_Sort_string_none Tryz.sortS p cap W)⟩
theorem keys_S (mb : Option Nat) (W : World) : CallsIn Fence.wide 5 Tryz.prog 25 #[.map mb] W fun e w' => e = .returned (.func (.func 36) #[] #[.pointer (some ⟨W.heap.size, 0, none⟩)]) ∧ w' = W.alloc (.cells #[.map mb] 83) :=
  AnyZ.keys_in Tryz.keysS Fence.wide 5 trivial rfl mb W
set_option maxHeartbeats 1000000 in
theorem sorted_S {H : Type} (Bm b nn : Nat) (D0 : DataW H) (R : Value → Option (DataW H × List MemPlace)) (w : World) (hm : w.cell? ⟨Bm, 0, none⟩ = some (.map (some b))) (hown : w.ownsMap Tryz.prog 9 R b nn D0) (hmax : Maps.size D0 ≤ maxLen) (hbytes : Maps.size D0 * 16 ≤ 140737488355328) :
    Calls Tryz.prog 24 #[.func (.func 36) #[] #[.pointer (some ⟨Bm, 0, none⟩)]] w fun e w' => ∃ (v : Value) (ss : List (List UInt8)), e = .returned v ∧ ss.Perm (strKeys D0) ∧
      w'.ownsRow w.heap.size 9 1 v ss.length ((ss.mergeSort (fun x y => decide (x ≤ y))).map encStr) ∧ (v = .slice none 0 0 ↔ ss = []) ∧ Below w.heap.size w w' := by
  refine (callsIn_wide (n := 5)).1 ?_
  have hseq : SeqGives Fence.wide 2 Tryz.prog 36 #[.pointer (some ⟨Bm, 0, none⟩)] encStr (fun ss => ss.Perm (strKeys D0)) (Maps.size D0) w :=
    AnyZ.keys_gives (ρ := Tryz.keysS_ren) { Tryz.keysS with } Fence.wide _ trivial rfl (by omega) Bm b nn D0 _ (World.block_lt_of_cell? w ⟨Bm, 0, none⟩ hm) hm hown
  exact AnyZ.sorted_in Tryz.sortedS Fence.wide 5 trivial trivial trivial trivial rfl (by omega) (sortsS _) (enters_of Tryz.func35 (by kernel_rfl) rfl) 36 #[.pointer (some ⟨Bm, 0, none⟩)] trivial (enters_of Tryz.func36 (by kernel_rfl) rfl) _ _ hmax hbytes _ hseq
theorem keys_S2 (mb : Option Nat) (W : World) : Calls Tryz.prog 25 #[.map mb] W fun e w' => ∃ Bm, e = .returned (.func (.func 36) #[] #[.pointer (some ⟨Bm, 0, none⟩)]) ∧ (w'.cell? ⟨Bm, 0, none⟩ = some (.map mb)) ∧ Below W.heap.size W w' := by
  refine ((callsIn_wide (n := 5)).1 (keys_S mb W)).mono ?_
  rintro e w' ⟨rfl, rfl⟩
  exact ⟨_, rfl, by simp, Below.alloc (Below.refl _ _) (Nat.le_refl _) _⟩
set_option maxRecDepth 100000 in
theorem ex_begun (most : Int) (w : World) : Calls Tryz.prog 16 #[.int .i64 most] w fun e w' => e = .returned (.pointer (some ⟨w.heap.size + 1 + 1, 0, none⟩)) ∧ w' = ((w.alloc (.map #[] 0)).alloc (.map #[] 0)).alloc (.cells #[.int .i64 most, .map (some w.heap.size), .map (some (w.heap.size + 1))] 85) := by
  have hmm := @run_makeMap Tryz.prog
  go_enter Tryz.func16, Tryz.ntmps16
  go_wp2_with fail
  go_ret
  exact ⟨by simp, by simp⟩
/-- How the search's map of states reads: each key leads to no sleep sets. -/
def nilS (v : Value) : Option (DataW Unit × List MemPlace) := match v with
  | .slice none 0 0 => some (.lit (.bool true), [])
  | _ => none
/-- A search's variables: the block, the two maps, the states and the outcomes that it has found. -/
def Walk (kb b1 b2 : Nat) (most : Int) (n : Nat) (S F : DataW Unit) (w : World) : Prop :=
  w.heap[kb]? = some (.cells #[.int .i64 most, .map (some b1), .map (some b2)] 85 (0, 0)) ∧ b1 ≠ b2 ∧ kb ≠ b1 ∧ kb ≠ b2
    ∧ w.ownsMap Tryz.prog 9 nilS b1 n S ∧ w.ownsMap Tryz.prog 9 (plainElem Tryz.prog 4) b2 n F
theorem Walk.below {kb b1 b2 n : Nat} {most : Int} {S F : DataW Unit} {w w' : World} (h : Walk kb b1 b2 most n S F w) (hb : Below w.heap.size w w') : Walk kb b1 b2 most n S F w' := by
  obtain ⟨h1, h2, h3, h4, h5, h6⟩ := h
  exact ⟨(hb.block kb (Array.getElem?_eq_some_iff.1 h1).1).trans h1, h2, h3, h4, h5.kept (grown_of_below hb none) (by simp), h6.kept (grown_of_below hb none) (by simp)⟩
theorem Walk.c0 {kb b1 b2 n : Nat} {most : Int} {S F : DataW Unit} {w : World} (h : Walk kb b1 b2 most n S F w) : w.cell? ⟨kb, 0, none⟩ = some (.int .i64 most) := by simp [World.cell?, h.1]
theorem Walk.c1 {kb b1 b2 n : Nat} {most : Int} {S F : DataW Unit} {w : World} (h : Walk kb b1 b2 most n S F w) : w.cell? ⟨kb, 1, none⟩ = some (.map (some b1)) := by simp [World.cell?, h.1]
theorem Walk.c2 {kb b1 b2 n : Nat} {most : Int} {S F : DataW Unit} {w : World} (h : Walk kb b1 b2 most n S F w) : w.cell? ⟨kb, 2, none⟩ = some (.map (some b2)) := by simp [World.cell?, h.1]
theorem Walk.len {kb b1 b2 n : Nat} {most : Int} {S F : DataW Unit} {w : World} (h : Walk kb b1 b2 most n S F w) (ty : TypeId) : (Builtin.len_ #[82] ty #[.map (some b1)]).run Tryz.prog w = .ok (.int .i64 (Maps.size S)) w := h.2.2.2.2.1.len Tryz.underlying82 ty
theorem Walk.drew {kb b1 b2 n : Nat} {most : Int} {S F : DataW Unit} {w : World} (h : Walk kb b1 b2 most n S F w) : Walk kb b1 b2 most n S F w.drew := h.below (Below.drew (Below.refl _ _))
set_option maxHeartbeats 4000000 in
set_option maxRecDepth 100000 in
theorem ex_told (kb b1 b2 n : Nat) (most : Int) (S F : DataW Unit) (w : World) (h : Walk kb b1 b2 most n S F w) (hn : n ≤ 1000000) :
    Calls Tryz.prog 17 #[.pointer (some ⟨kb, 0, none⟩), .bool true] w fun e w' => ∃ (v : Value) (ss : List (List UInt8)), e = .returned (.tuple #[v, .int .i64 (Maps.size S), .int .i64 0]) ∧ ss.Perm (strKeys F) ∧ w'.ownsRow w.heap.size 9 1 v ss.length ((ss.mergeSort (fun x y => decide (x ≤ y))).map encStr) ∧ Below w.heap.size w w' := by
  have hF : Maps.size F ≤ n := h.2.2.2.2.2.size_le
  have hkeys := fun W => keys_S2 (some b2) W
  have hsort := fun Bm W (hm : W.cell? ⟨Bm, 0, none⟩ = some (.map (some b2))) (hW : Below w.heap.size w W) => sorted_S Bm b2 n F (plainElem Tryz.prog 4) W hm ((h.below hW).2.2.2.2.2) (by unfold maxLen; omega) (by omega)
  have Hkeys := hide hkeys
  have Hsort := hide hsort
  clear hkeys hsort hF
  go_enter Tryz.func17, Tryz.ntmps17
  go_wp2_with fail
  refine wp_region_held_drew (S := (fun W => Walk kb b1 b2 most n S F W)) (by kernel_rfl) ab21 (fun hHeld => ?_)
  refine wpAnyH_take (i := 0) (v := ?_) (oi := { dst := some 9, op := Op.move (Operand.tmp 0), type := 65, pos := "explore.go:175", after := #[], guard := none }) (by rfl) (by kernel_rfl) (by kernel_rfl) (by kernel_rfl) (fun _ _ _ h => h) (Or.inl ⟨by rfl, ?_⟩) (by assumption) ?_; rotate_left; focus (intro wTk hSw; (try dsimp only at hSw); have kS0 := hSw.c0; have kS1 := hSw.c1; have kS2 := hSw.c2; have kSl := hSw.len; go_simp; (try with_reducible rfl); done)
  (try simp only [Act.put, List.setIfInBounds_toArray, List.set_cons_zero, List.set_cons_succ])
  refine wpAnyH_take (i := 1) (v := ?_) (oi := { dst := some 10, op := Op.nilCheck (Operand.tmp 9), type := 0, pos := "explore.go:175", after := #[{ on := 0, ground := Ground.data }], guard := none }) (by rfl) (by kernel_rfl) (by kernel_rfl) (by kernel_rfl) (fun _ _ _ h => h) (Or.inl ⟨by rfl, ?_⟩) (by assumption) ?_; rotate_left; focus (intro wTk hSw; (try dsimp only at hSw); have kS0 := hSw.c0; have kS1 := hSw.c1; have kS2 := hSw.c2; have kSl := hSw.len; go_simp; (try with_reducible rfl); done)
  (try simp only [Act.put, List.setIfInBounds_toArray, List.set_cons_zero, List.set_cons_succ])
  refine wpAnyH_take (i := 2) (v := ?_) (oi := { dst := some 11, op := Op.fieldAddr 85 (Operand.tmp 10) 2, type := 0, pos := "explore.go:175", after := #[{ on := 1, ground := Ground.data }], guard := none }) (by rfl) (by kernel_rfl) (by kernel_rfl) (by kernel_rfl) (fun _ _ _ h => h) (Or.inl ⟨by rfl, ?_⟩) (by assumption) ?_; rotate_left; focus (intro wTk hSw; (try dsimp only at hSw); have kS0 := hSw.c0; have kS1 := hSw.c1; have kS2 := hSw.c2; have kSl := hSw.len; go_simp; (try with_reducible rfl); done)
  (try simp only [Act.put, List.setIfInBounds_toArray, List.set_cons_zero, List.set_cons_succ])
  refine wpAnyH_take (i := 3) (v := ?_) (oi := { dst := some 12, op := Op.load 83 (Operand.tmp 11), type := 83, pos := "explore.go:175", after := #[{ on := 2, ground := Ground.data }], guard := none }) (by rfl) (by kernel_rfl) (by kernel_rfl) (by kernel_rfl) (fun _ _ _ h => h) (Or.inl ⟨by rfl, ?_⟩) (by assumption) ?_; rotate_left; focus (intro wTk hSw; (try dsimp only at hSw); have kS0 := hSw.c0; have kS1 := hSw.c1; have kS2 := hSw.c2; have kSl := hSw.len; go_simp; (try with_reducible rfl); done)
  (try simp only [Act.put, List.setIfInBounds_toArray, List.set_cons_zero, List.set_cons_succ])
  refine wpAnyH_take (i := 6) (v := ?_) (oi := { dst := some 15, op := Op.move (Operand.tmp 0), type := 65, pos := "explore.go:175", after := #[], guard := none }) (by rfl) (by kernel_rfl) (by kernel_rfl) (by kernel_rfl) (fun _ _ _ h => h) (Or.inl ⟨by rfl, ?_⟩) (by assumption) ?_; rotate_left; focus (intro wTk hSw; (try dsimp only at hSw); have kS0 := hSw.c0; have kS1 := hSw.c1; have kS2 := hSw.c2; have kSl := hSw.len; go_simp; (try with_reducible rfl); done)
  (try simp only [Act.put, List.setIfInBounds_toArray, List.set_cons_zero, List.set_cons_succ])
  refine wpAnyH_take (i := 7) (v := ?_) (oi := { dst := some 16, op := Op.nilCheck (Operand.tmp 15), type := 0, pos := "explore.go:175", after := #[{ on := 6, ground := Ground.data }], guard := none }) (by rfl) (by kernel_rfl) (by kernel_rfl) (by kernel_rfl) (fun _ _ _ h => h) (Or.inl ⟨by rfl, ?_⟩) (by assumption) ?_; rotate_left; focus (intro wTk hSw; (try dsimp only at hSw); have kS0 := hSw.c0; have kS1 := hSw.c1; have kS2 := hSw.c2; have kSl := hSw.len; go_simp; (try with_reducible rfl); done)
  (try simp only [Act.put, List.setIfInBounds_toArray, List.set_cons_zero, List.set_cons_succ])
  refine wpAnyH_take (i := 8) (v := ?_) (oi := { dst := some 17, op := Op.fieldAddr 85 (Operand.tmp 16) 1, type := 0, pos := "explore.go:175", after := #[{ on := 7, ground := Ground.data }], guard := none }) (by rfl) (by kernel_rfl) (by kernel_rfl) (by kernel_rfl) (fun _ _ _ h => h) (Or.inl ⟨by rfl, ?_⟩) (by assumption) ?_; rotate_left; focus (intro wTk hSw; (try dsimp only at hSw); have kS0 := hSw.c0; have kS1 := hSw.c1; have kS2 := hSw.c2; have kSl := hSw.len; go_simp; (try with_reducible rfl); done)
  (try simp only [Act.put, List.setIfInBounds_toArray, List.set_cons_zero, List.set_cons_succ])
  refine wpAnyH_take (i := 9) (v := ?_) (oi := { dst := some 18, op := Op.load 82 (Operand.tmp 17), type := 82, pos := "explore.go:175", after := #[{ on := 8, ground := Ground.data }], guard := none }) (by rfl) (by kernel_rfl) (by kernel_rfl) (by kernel_rfl) (fun _ _ _ h => h) (Or.inl ⟨by rfl, ?_⟩) (by assumption) ?_; rotate_left; focus (intro wTk hSw; (try dsimp only at hSw); have kS0 := hSw.c0; have kS1 := hSw.c1; have kS2 := hSw.c2; have kSl := hSw.len; go_simp; (try with_reducible rfl); done)
  (try simp only [Act.put, List.setIfInBounds_toArray, List.set_cons_zero, List.set_cons_succ])
  refine wpAnyH_ready (rs := [4]) (by kernel_rfl) (by simp) ?_
  refine AllReadyH.cons (o := { dst := some 13, op := Op.call { callee := Callee.value (Operand.func 25), args := #[Operand.tmp 12], argTypes := #[83] }, type := 88, pos := "explore.go:175", after := #[{ on := 3, ground := Ground.data }], guard := none }) (by rfl) (fun K hK => ?_) (AllReadyH.nil)
  go_simp
  (go_at_call 25; refine (Hkeys.out _).mono ?_; rintro e w1 ⟨Bm, rfl, hm1, hb1'⟩; have hb1 : Below _ _ w1 := (by first | with_reducible exact noDrew hb1' | exact hb1'); have hsw1 := (hb1).size; (try simp at hsw1))
  go_wp2_with fail
  refine hK.out _ _ ab21 (fun hHeld => ?_)
  clear hK K
  (try simp only [Act.put, List.setIfInBounds_toArray, List.set_cons_zero, List.set_cons_succ])
  refine wpAnyH_ready (rs := [5]) (by kernel_rfl) (by simp) ?_
  refine AllReadyH.cons (o := { dst := some 14, op := Op.call { callee := Callee.value (Operand.func 24), args := #[Operand.tmp 13], argTypes := #[88] }, type := 51, pos := "explore.go:175", after := #[{ on := 4, ground := Ground.data }, { on := 4, ground := Ground.chain }], guard := none }) (by rfl) (fun K hK => ?_) (AllReadyH.nil)
  go_simp
  (go_at_call 24; refine (Hsort.out _ _ hm1 ab0).mono ?_; rintro e w2 ⟨v, ss, rfl, hp, hrow, -, hb2'⟩; have hb2 : Below _ _ w2 := ab15; have hsw2 := (hb2).size; (try simp at hsw2))
  go_wp2_with fail
  refine hK.out _ _ ab21 (fun hHeld => ?_)
  clear hK K
  (try simp only [Act.put, List.setIfInBounds_toArray, List.set_cons_zero, List.set_cons_succ])
  refine wpAnyH_take (i := 10) (v := ?_) (oi := { dst := some 19, op := Op.call { callee := Callee.builtin Builtin.len, args := #[Operand.tmp 18], argTypes := #[82] }, type := 3, pos := "explore.go:175", after := #[{ on := 9, ground := Ground.data }, { on := 5, ground := Ground.chain }], guard := none }) (by rfl) (by kernel_rfl) (by kernel_rfl) (by kernel_rfl) (fun _ _ _ h => h) (Or.inl ⟨by rfl, ?_⟩) (by assumption) ?_; rotate_left; focus (intro wTk hSw; (try dsimp only at hSw); have kS0 := hSw.c0; have kS1 := hSw.c1; have kS2 := hSw.c2; have kSl := hSw.len; go_simp; (try with_reducible rfl); done)
  (try simp only [Act.put, List.setIfInBounds_toArray, List.set_cons_zero, List.set_cons_succ])
  refine wpAnyH_take (i := 11) (v := ?_) (oi := { dst := some 4, op := Op.assign (Operand.tmp 14), type := 51, pos := "explore.go:175", after := #[{ on := 5, ground := Ground.data }, { on := 10, ground := Ground.chain }, { on := 0, ground := Ground.phase }, { on := 1, ground := Ground.phase }, { on := 2, ground := Ground.phase }, { on := 3, ground := Ground.phase }, { on := 4, ground := Ground.phase }, { on := 5, ground := Ground.phase }, { on := 6, ground := Ground.textOnly Departure.lateStores }, { on := 7, ground := Ground.textOnly Departure.lateStores }, { on := 8, ground := Ground.textOnly Departure.lateStores }, { on := 9, ground := Ground.textOnly Departure.lateStores }, { on := 10, ground := Ground.textOnly Departure.lateStoresUnsure }], guard := none }) (by rfl) (by kernel_rfl) (by kernel_rfl) (by kernel_rfl) (fun _ _ _ h => h) (Or.inl ⟨by rfl, ?_⟩) (by assumption) ?_; rotate_left; focus (intro wTk hSw; (try dsimp only at hSw); have kS0 := hSw.c0; have kS1 := hSw.c1; have kS2 := hSw.c2; have kSl := hSw.len; go_simp; (try with_reducible rfl); done)
  (try simp only [Act.put, List.setIfInBounds_toArray, List.set_cons_zero, List.set_cons_succ])
  refine wpAnyH_take (i := 12) (v := ?_) (oi := { dst := some 5, op := Op.assign (Operand.tmp 19), type := 3, pos := "explore.go:175", after := #[{ on := 10, ground := Ground.data }, { on := 11, ground := Ground.chain }, { on := 0, ground := Ground.phase }, { on := 1, ground := Ground.phase }, { on := 2, ground := Ground.phase }, { on := 3, ground := Ground.phase }, { on := 4, ground := Ground.phase }, { on := 5, ground := Ground.phase }, { on := 6, ground := Ground.phase }, { on := 7, ground := Ground.phase }, { on := 8, ground := Ground.phase }, { on := 9, ground := Ground.phase }, { on := 10, ground := Ground.phase }, { on := 11, ground := Ground.phase }], guard := none }) (by rfl) (by kernel_rfl) (by kernel_rfl) (by kernel_rfl) (fun _ _ _ h => h) (Or.inl ⟨by rfl, ?_⟩) (by assumption) ?_; rotate_left; focus (intro wTk hSw; (try dsimp only at hSw); have kS0 := hSw.c0; have kS1 := hSw.c1; have kS2 := hSw.c2; have kSl := hSw.len; go_simp; (try with_reducible rfl); done)
  (try simp only [Act.put, List.setIfInBounds_toArray, List.set_cons_zero, List.set_cons_succ])
  refine wpAnyH_take (i := 13) (v := ?_) (oi := { dst := some 6, op := Op.assign (Operand.const (Value.int IntKind.i64 0)), type := 52, pos := "explore.go:175", after := #[{ on := 12, ground := Ground.chain }, { on := 0, ground := Ground.phase }, { on := 1, ground := Ground.phase }, { on := 2, ground := Ground.phase }, { on := 3, ground := Ground.phase }, { on := 4, ground := Ground.phase }, { on := 5, ground := Ground.phase }, { on := 6, ground := Ground.phase }, { on := 7, ground := Ground.phase }, { on := 8, ground := Ground.phase }, { on := 9, ground := Ground.phase }, { on := 10, ground := Ground.phase }, { on := 11, ground := Ground.phase }, { on := 12, ground := Ground.phase }], guard := none }) (by rfl) (by kernel_rfl) (by kernel_rfl) (by kernel_rfl) (fun _ _ _ h => h) (Or.inl ⟨by rfl, ?_⟩) (by assumption) ?_; rotate_left; focus (intro wTk hSw; (try dsimp only at hSw); have kS0 := hSw.c0; have kS1 := hSw.c1; have kS2 := hSw.c2; have kSl := hSw.len; go_simp; (try with_reducible rfl); done)
  (try simp only [Act.put, List.setIfInBounds_toArray, List.set_cons_zero, List.set_cons_succ])
  refine wpAnyH_done (by kernel_rfl) ?_ _
  all_goals go_wp2_with fail
  all_goals refine bodyPost_ret (v := .tuple #[v, .int .i64 (Maps.size S), .int .i64 0]) (by simp [results, Tryz.results17, go_sem]) rfl ⟨v, ss, rfl, hp, ownsRow_base_a hrow hsw1, hb1.trans (hb2.mono hsw1)⟩
end Go.Proofs.YtfdndkgjmmeafaaGreatDoor

