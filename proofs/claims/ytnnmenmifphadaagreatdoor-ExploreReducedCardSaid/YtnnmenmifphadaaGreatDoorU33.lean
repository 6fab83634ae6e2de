/- Package explore: numbers, raw, bit: what they write into a builder. -/
import Derived.Lib.AppendIntMem
import Derived.Lib.BufferKept
import Derived.Test.YtnnmenmifphadaaGreatDoorU02
import Derived.Test.YtnnmenmifphadaaGreatDoorU14
import Derived.Test.YtnnmenmifphadaaGreatDoorU17
set_option linter.unusedSimpArgs false
set_option linter.unusedVariables false
set_option maxRecDepth 100000
set_option maxHeartbeats 40000000
namespace Go.Proofs.YtnnmenmifphadaaGreatDoor
open Go.RowKit Go.Maps
def Bld (N b : Nat) (l : List UInt8) (w : World) : Prop := Lib.IsBuilderF 103 5 N b (Lib.byteCells l) w ∧ N ≤ w.heap.size ∧ N ≤ b
def Ext (N b : Nat) (w w' : World) : Prop := Below N w w' ∧ Lib.OthersKept 5 (some b) w w'
theorem Ext.refl (N b : Nat) (w : World) : Ext N b w w := ⟨Below.refl _ _, Lib.OthersKept.refl _ _ _⟩
theorem Ext.trans {N b : Nat} {w w1 w2 : World} (h : Ext N b w w1) (k : Ext N b w1 w2) : Ext N b w w2 := ⟨h.1.trans k.1, h.2.trans k.2⟩
theorem Ext.of {N b : Nat} {w w' : World} (h : Below w.heap.size w w') (hN : N ≤ w.heap.size) : Ext N b w w' := ⟨h.mono hN, Lib.OthersKept.below (Lib.OthersKept.refl _ _ _) h⟩
theorem Ext.size {N b : Nat} {w w' : World} (h : Ext N b w w') : w.heap.size ≤ w'.heap.size := h.1.size
theorem Ext.obj {N b k : Nat} {w w' : World} {cs : Array Value} {t : TypeId} {fz : Nat × Nat} (h : Ext N b w w') (hk : w.heap[k]? = some (.cells cs t fz)) (hne : k ≠ b) (ht : t ≠ 5) : w'.heap[k]? = some (.cells cs t fz) :=
 h.2 k _ hk (fun e => hne (Option.some.inj e)) (fun c f e => by cases e; exact ht rfl)
theorem Bld.below {N b : Nat} {l : List UInt8} {w w' : World} (h : Bld N b l w) (hb : Below w.heap.size w w') : Bld N b l w' := by
 refine ⟨?_, Nat.le_trans h.2.1 hb.size, h.2.2⟩
 have key : ∀ p, Lib.BuilderAtF 103 5 N b p (Lib.byteCells l) w → Lib.BuilderAtF 103 5 N b p (Lib.byteCells l) w' := by
  rintro p ⟨h1, v, h2, h3, h4⟩
  have hlt : b < w.heap.size := (Array.getElem?_eq_some_iff.1 h2).1
  refine ⟨h1, v, (hb.block b hlt).trans h2, ?_, h4⟩
  obtain ⟨q1, q2⟩ := h3
  refine ⟨q1, ?_⟩
  rcases q2 with q2 | ⟨g, cap, cur, fz, e1, e2, e3, e4⟩
  ·exact .inl q2
  ·exact .inr ⟨g, cap, cur, fz, e1, e2, (hb.block g (Array.getElem?_eq_some_iff.1 e3).1).trans e3, e4⟩
 exact h.1.elim (fun x => .inl (key _ x)) (fun x => .inr (key _ x))
theorem wr_byte (N b : Nat) (l : List UInt8) (c : UInt8) (z : Int) (w : World) (h : Bld N b l w) (hz : z = c.toNat) (hlen : l.length + 1 ≤ 140737488355328) :
  Calls Tryz.prog 37 #[.pointer (some ⟨b, 0, none⟩), .int .u8 z] w fun e w' => e = .returned .nilIface ∧ Bld N b (l ++ [c]) w' ∧ Ext N b w w' := by
 subst hz
 refine (bld_byte N b (Lib.byteCells l) c.toNat w h.1 (by rw [Lib.byteCells_length]; exact hlen) h.2.1).mono ?_
 rintro e w' ⟨he, hA, hB, hO⟩
 exact ⟨he, ⟨.inr (by rw [show Lib.byteCells (l ++ [c]) = Lib.byteCells l ++ [.int .u8 c.toNat] by simp [Lib.byteCells]]; exact hA), Nat.le_trans h.2.1 hB.size, h.2.2⟩, hB, hO⟩
theorem wr_string (N b : Nat) (l s : List UInt8) (w : World) (h : Bld N b l w) (hlen : l.length + s.length ≤ 140737488355328) :
  Calls Tryz.prog 75 #[.pointer (some ⟨b, 0, none⟩), .string ⟨s.toArray⟩] w fun e w' => e = .returned (.tuple #[.int .i64 s.length, .nilIface]) ∧ Bld N b (l ++ s) w' ∧ Ext N b w w' := by
 refine (Any.Builder_WriteString_k lays166 bextra N b (Lib.byteCells l) ⟨s.toArray⟩ w h.1 (by rw [Lib.byteCells_length]; exact hlen) h.2.1).mono ?_
 rintro e w' ⟨he, hA, hB, hO⟩
 exact ⟨he, ⟨.inr (by rw [show Lib.byteCells (l ++ s) = Lib.byteCells l ++ Lib.strCells ⟨s.toArray⟩ by simp [Lib.byteCells, Lib.strCells]]; exact hA), Nat.le_trans h.2.1 hB.size, h.2.2⟩, hB, hO⟩
def Tab (w : World) : Prop := Lib.TabIs Tryz.prog w "internal/strconv.uint64pow10" .u64 Lib.pow10Tab
theorem tab_at : Tryz.prog.globalNamed "internal/strconv.uint64pow10" = some 0 := by kernel_rfl
theorem Tab.below {N : Nat} {w w' : World} (h : Tab w) (hb : Below N w w') (hN : 0 < N) : Tab w' := by
 unfold Tab Lib.TabIs World.var? at h ⊢
 rw [tab_at] at h ⊢
 simp only [Option.bind_some] at h ⊢
 rw [hb.block _ hN]
 exact h
theorem fmt_int (n : Int) (w : World) (h0 : -9223372036854775808 ≤ n) (h1 : n ≤ 9223372036854775807) (ht : Tab w) :
  Calls Tryz.prog 70 #[.int .i64 n, .int .i64 10] w (Ret (.string ⟨(Lib.itoa n).toArray⟩) w) := by
 refine (Tryz.strconv_FormatInt_10 n h0 h1 w ht).mono ?_
 rintro e w' ⟨he, k, os, rfl⟩
 exact ⟨he, Lib.below_grow _ _ (Nat.le_refl _) _ _⟩
def numsT (zs : List Int) : List UInt8 := zs.flatMap (fun z => Lib.itoa z ++ [44])
theorem numsT_take {zs : List Int} {k : Nat} {z : Int} (h : zs[k]? = some z) : numsT (zs.take (k + 1)) = numsT (zs.take k) ++ (Lib.itoa z ++ [44]) := by
 unfold numsT
 rw [List.take_add_one, h]
 simp
theorem numsT_le {zs : List Int} {k : Nat} : (numsT (zs.take k)).length ≤ (numsT zs).length := by
 conv => rhs; rw [← List.take_append_drop k zs]
 unfold numsT
 rw [List.flatMap_append, List.length_append]
 omega
theorem ex_numbers (N b : Nat) (l : List UInt8) (zs : List Int) (bk : Nat) (w : World) (h : Bld N b l w) (hN : 0 < N) (hbk : w.heap[bk]? = some (.cells (zs.map (Value.int .i64)).toArray 2 (0, 0))) (hne : bk ≠ b) (htab : Tab w) (hz : ∀ z ∈ zs, -9223372036854775808 ≤ z ∧ z ≤ 9223372036854775807) (hlen : (l ++ numsT zs).length ≤ 140737488355328) (hn : zs.length ≤ 1000) :
  Calls Tryz.prog 39 #[.pointer (some ⟨b, 0, none⟩), .slice (some ⟨bk, 0, none⟩) zs.length zs.length] w fun e w' => e = .returned (.tuple #[]) ∧ Bld N b (l ++ numsT zs) w' ∧ Ext N b w w' := by
 have Hbk := hide hbk
 have H := hide h
 have Htab := hide htab
 have Hz := hide hz
 have Hlen := hide hlen
 clear hbk h htab hz hlen
 go_enter Tryz.func39, Tryz.ntmps39
 go_wp2_with fail
 go_loopw [8] (fun i wr => ∃ k : Nat, i = .int .i64 k ∧ k ≤ zs.length ∧ Hid (Bld N b (l ++ numsT (zs.take k)) wr) ∧ Hid (Ext N b w wr)) (fun i _ => zs.length - (intOf i).toNat)
 case atStart => exact ⟨0, rfl, by omega, hide (by simpa [numsT] using H.out), hide (Ext.refl _ _ _)⟩
 case round =>
  obtain ⟨k, rfl, hk, HB, HE⟩ := hrel
  by_cases hlt : (k : Int) < zs.length
  ·obtain ⟨z, hzk⟩ : ∃ z, zs[k]? = some z := ⟨_, List.getElem?_eq_getElem oM⟩
   obtain ⟨z0, z1⟩ := Hz.out z (List.mem_of_getElem? hzk)
   have hobj := HE.out.obj Hbk.out hne dM
   have c0 : wr.cell? ⟨bk, k, none⟩ = some (.int .i64 z) := by simp [World.cell?, hobj, hzk]
   have ht := Htab.out.below HE.out.1 hN
   have HT := hide ht
   have hl1 : ((l ++ numsT (zs.take k)).length + ((Lib.itoa z).length + 1)) ≤ 140737488355328 := by
    have q1 := numsT_le (zs := zs) (k := k + 1)
    rw [numsT_take hzk] at q1
    have q2 := Hlen.out
    simp only [List.length_append, List.length_cons, List.length_nil] at q1 q2 ⊢
    omega
   have Hl1 := hide hl1
   have j0 : (0 : Int) ≤ (k : Int) := by omega
   have Hzk := hide hzk
   clear hobj ht hl1 hzk
   go_wp2_with (first
    | (go_at_call 70; refine (fmt_int z _ z0 z1 HT.out).mono ?_; rintro e w1 ⟨rfl, hb1⟩; have Hb1 := hide hb1; clear hb1)
    | (go_at_call 75; refine (wr_string N b (l ++ numsT (zs.take k)) (Lib.itoa z) _ (HB.out.below Hb1.out) (by have := Hl1.out; omega)).mono ?_; rintro e w2 ⟨rfl, hB2, hE2⟩; have HB2 := hide hB2; have HE2 := hide hE2; clear hB2 hE2)
    | (go_at_call 37; refine (wr_byte N b (l ++ numsT (zs.take k) ++ Lib.itoa z) 44 44 _ HB2.out (by rfl) (by have := Hl1.out; rw [List.length_append]; omega)).mono ?_; rintro e w3 ⟨rfl, hB3, hE3⟩; have HB3 := hide hB3; have HE3 := hide hE3; clear hB3 hE3))
   exact ⟨⟨k + 1, by go_num, by omega, hide (by rw [numsT_take Hzk.out, ← List.append_assoc, ← List.append_assoc]; exact HB3.out), hide (((HE.out.trans (Ext.of Hb1.out HB.out.2.1)).trans HE2.out).trans HE3.out)⟩, by simp [intOf]; omega⟩
  ·obtain rfl : zs.length = k := by omega
   go_wp2
   go_end0
   exact ⟨rfl, by have q := HB.out; rwa [List.take_length] at q, HE.out⟩
end Go.Proofs.YtnnmenmifphadaaGreatDoor
namespace Go.Proofs.YtnnmenmifphadaaGreatDoor
open Go.RowKit Go.Maps Go.Sort
theorem holds_zero0 (w : World) (T : TypeId) (nd : Nat) (hs : nd ≤ 24) : Holds (fun (b : UInt8) => Value.int .u8 (b.toNat : Int)) (w.alloc (.cells Lib.zeros24 T)) w.heap.size 0 (Array.replicate nd (0 : UInt8)) := fun j hj => by
 have hj' : j < nd := by simpa using hj
 refine ⟨?_, World.frozen?_alloc_new _ _ _ _⟩
 rw [World.cell?_alloc_new, Lib.zeros24_at _ oM, getElem!_pos _ j hj]
 simp
theorem fin_row (w : World) (o : Obj) (dk : Array UInt8) (k : Nat) : ∃ os, (putRow (fun (b : UInt8) => Value.int .u8 (b.toNat : Int)) (w.alloc o) w.heap.size 0 dk).drewN k = grow (w.drewN k) os := by
 rw [alloc_eq_grow]
 obtain ⟨os', _, e⟩ := putRow_grow_new (fun (b : UInt8) => Value.int .u8 (b.toNat : Int)) w #[o] w.heap.size 0 dk (Nat.le_refl _)
 exact ⟨os', by rw [e]; rfl⟩
theorem fmt_uint0 (u : Nat) (hu64 : u < 18446744073709551616) (w : World) (htab : Tab w) :
  Calls Tryz.prog 117 #[.int .u64 u, .int .i64 10] w (Ret (.string ⟨(Lib.itoa u).toArray⟩) w) := by
 by_cases hi : u < 100
 ·have g1 : (u : Int) < 100 := by omega
  have hw : IntKind.i64.wrap (u : Int) = (u : Int) := IntWalk.i64_in _ oM
  go_enter Tryz.func117, Tryz.ntmps117
  go_wp2_with (go_at_call 145; refine (Tryz.internal_strconv_small u hi _).mono ?_; rintro e w' ⟨rfl, rfl⟩)
  go_ret
  refine ⟨?_, Below.refl _ _⟩
  rw [Lib.itoa_nonneg]
  rfl
 ·have hu1 : 1 ≤ u := by omega
  have g1 : ¬ ((u : Int) < 100) := by omega
  have hnd20 : Lib.nDigits u ≤ 20 := by have := Lib.numDigits_eq u hu1 hu64; split at this <;> omega
  have hal : Tryz.prog.arrayLen 243 = 24 := by simp [Program.arrayLen, Tryz.underlying243]
  have hsl1 : ∀ W, (Instr.sliceAt 243 (.pointer (some ⟨w.heap.size, 0, none⟩)) none (some (.int .i64 (Lib.nDigits u : Int))) none).run Tryz.prog W = .ok (.slice (some ⟨w.heap.size, 0, none⟩) (Lib.nDigits u) 24) W := fun W => by
   rw [run_sliceAt_array_h W 243 ⟨w.heap.size, 0, none⟩ (by simp [Program.arrayLen, Program.elem, Tryz.underlying243]) .i64 (Lib.nDigits u : Int) oM (by rw [hal]; omega)]
   go_simp
  have hH0 := holds_zero0 w 243 (Lib.nDigits u) oM
  have hfmt := Tryz.internal_strconv_formatBase10 w.heap.size 0 24 u (Array.replicate (Lib.nDigits u) 0) (w.alloc (.cells Lib.zeros24 243)) hH0 (by rw [Array.size_replicate]; exact Lib.lt_pow_nDigits u) hu64 (by rw [Array.size_replicate]; omega)
  rw [Array.size_replicate] at hfmt
  have HH0 := hide hH0
  have Hfmt := hide hfmt
  have HT := hide htab
  clear hH0 hal hfmt htab
  go_enter Tryz.func117, Tryz.ntmps117
  go_wp2_with (first
   | (go_at_call 146; refine (Tryz.internal_strconv_numDigits u hu1 hu64 _ (Lib.tabIs_alloc HT.out _)).mono ?_; rintro e w' ⟨rfl, rfl⟩))
  go_at_call 147
  refine Hfmt.out.mono ?_
  rintro e w' ⟨rfl, k, v', dk, rfl, hF⟩
  have hcv : (convert 101 9 (.slice (some ⟨w.heap.size, 0, none⟩) (Lib.nDigits u) 24)).run Tryz.prog ((putRow (fun (b : UInt8) => Value.int .u8 (b.toNat : Int)) (w.alloc (.cells Lib.zeros24 243)) w.heap.size 0 dk).drewN k) = .ok (.string ⟨(Lib.decDigits u).toArray⟩) ((putRow (fun (b : UInt8) => Value.int .u8 (b.toNat : Int)) (w.alloc (.cells Lib.zeros24 243)) w.heap.size 0 dk).drewN k) := by
   have h := run_convert_bytes_back (P := Tryz.prog) ((putRow (fun (b : UInt8) => Value.int .u8 (b.toNat : Int)) (w.alloc (.cells Lib.zeros24 243)) w.heap.size 0 dk).drewN k) 101 9 5 ⟨w.heap.size, 0, none⟩ 24 (Lib.decDigits u) Tryz.underlying101 Tryz.underlying5 Tryz.underlying9 (fun j hj => by
    rw [Lib.row_is_numeral hF j hj, Lib.add_plain, World.cell?_drewN]
    exact cell?_putRow (fun (b : UInt8) => Value.int .u8 (b.toNat : Int)) _ w.heap.size 0 _ dk HH0.out (by rw [hF.size, Array.size_replicate]) j (by rw [hF.size]; rw [Lib.decDigits_length] at hj; exact hj))
   rw [Lib.decDigits_length] at h
   exact h
  go_wp2
  go_ret
  obtain ⟨os, eo⟩ := fin_row w (.cells Lib.zeros24 243) dk k
  refine ⟨?_, ?_⟩
  ·rw [Lib.itoa_nonneg]
   try rfl
  ·rw [eo]
   exact Lib.below_grow _ _ (Nat.le_refl _) _ _
theorem fmt_uint (z : Int) (h0 : 0 ≤ z) (h1 : z < 18446744073709551616) (w : World) (htab : Tab w) :
  Calls Tryz.prog 71 #[.int .u64 z, .int .i64 10] w (Ret (.string ⟨(Lib.itoa z).toArray⟩) w) := by
 obtain ⟨u, rfl⟩ : ∃ u : Nat, z = u := ⟨z.toNat, by omega⟩
 have Hf := hide (fmt_uint0 u oM w htab)
 clear htab h0 h1
 go_enter Tryz.func71, Tryz.ntmps71
 go_wp2_with (go_at_call 117; refine Hf.out.mono ?_; rintro e w' ⟨rfl, hb⟩)
 go_ret
 exact ⟨rfl, hb⟩
end Go.Proofs.YtnnmenmifphadaaGreatDoor
