/- Package explore: raw, views, bit: what they write. -/
import Derived.Test.YtnnmenmifphadaaGreatDoorU08
import Derived.Test.YtnnmenmifphadaaGreatDoorU35
set_option linter.unusedSimpArgs false
set_option linter.unusedVariables false
set_option maxRecDepth 100000
set_option maxHeartbeats 40000000
namespace Go.Proofs.YtnnmenmifphadaaGreatDoor
open Go.RowKit Go.Maps Go.Sort
def W3.okW (x : W3) : Prop := (-9223372036854775808 ≤ x.v ∧ x.v ≤ 9223372036854775807) ∧ (0 ≤ x.r ∧ x.r ≤ 4294967295) ∧ (0 ≤ x.f ∧ x.f ≤ 4294967295)
def rawT (x : W3) : List UInt8 := numsT [x.v, x.r, x.f]
theorem Bld.lt {N b : Nat} {l : List UInt8} {w : World} (h : Bld N b l w) : b < w.heap.size := by
 rcases h.1 with ⟨_, v, h2, _⟩ | ⟨_, v, h2, _⟩
 ·exact (Array.getElem?_eq_some_iff.1 h2).1
 ·exact (Array.getElem?_eq_some_iff.1 h2).1
theorem Ext.own {N b base size n : Nat} {w w' : World} {e : TypeId} {v : Value} {xs : List Value} (h : Ext N b w w') (ho : w.ownsRow base e size v n xs) (he : e ≠ 5) (hb : b < base) : w'.ownsRow base e size v n xs := by
 obtain ⟨h1, h2⟩ := ho
 refine ⟨h1, ?_⟩
 rcases h2 with h2 | ⟨g, cap, cur, rfl, hg, ho, h3⟩
 ·exact .inl h2
 ·exact .inr ⟨g, cap, cur, rfl, hg, h.obj ho oM he, h3⟩
theorem heap_new (w : World) (o : Obj) {k : Nat} (hk : k = w.heap.size) : (w.alloc o).heap[k]? = some o := by
 subst hk
 exact Go.heap_alloc_new w o
theorem ex_raw (N b : Nat) (l : List UInt8) (x : W3) (w : World) (h : Bld N b l w) (hN : 0 < N) (htab : Tab w) (hx : x.okW) (hlen : (l ++ rawT x).length ≤ 140737488355328) :
  Calls Tryz.prog 42 #[.pointer (some ⟨b, 0, none⟩), (w3V x)] w fun e w' => e = .returned (.tuple #[]) ∧ Bld N b (l ++ rawT x) w' ∧ Ext N b w w' := by
 obtain ⟨⟨v0, v1⟩, ⟨r0, r1⟩, ⟨f0, f1⟩⟩ := hx
 have hw1 : IntKind.i64.wrap x.r = x.r := IntWalk.i64_in _ oM
 have hw2 : IntKind.i64.wrap x.f = x.f := IntWalk.i64_in _ oM
 have hbl := h.lt
 have hNw := h.2.1
 have hnum : ∀ W bk, Bld N b l W → Tab W → bk ≠ b → W.heap[bk]? = some (.cells #[.int .i64 x.v, .int .i64 x.r, .int .i64 x.f] 2 (0, 0)) → Calls Tryz.prog 39 #[.pointer (some ⟨b, 0, none⟩), .slice (some ⟨bk, 0, none⟩) 3 3] W fun e w' => e = .returned (.tuple #[]) ∧ Bld N b (l ++ rawT x) w' ∧ Ext N b W w' := by
  intro W bk hB hT hne hbk
  exact ex_numbers N b l [x.v, x.r, x.f] bk W hB hN hbk hne hT (by
   intro z hz
   simp only [List.mem_cons, List.not_mem_nil, or_false] at hz
   rcases hz with rfl | rfl | rfl <;> omega) hlen sM
 have Hnum := hide hnum
 have H := hide h
 have HT := hide htab
 clear hnum h htab hlen
 go_enter Tryz.func42, Tryz.ntmps42
 go_wp2_with (first
  | (go_at_call 39; refine (Hnum.out _ (w.heap.size + 1) (H.out.below ab0) (HT.out.below (N := w.heap.size) ab0 oM) oM (heap_new _ _ sM)).mono ?_; rintro e w1 ⟨rfl, hB1, hE1⟩))
 go_end0
 exact ⟨rfl, hB1, (Ext.of ab0 hNw).trans hE1⟩
def bitI (d : Bool) : Int := if d then 1 else 0
theorem bitI_in (d : Bool) : -9223372036854775808 ≤ bitI d ∧ bitI d ≤ 9223372036854775807 := by cases d <;> decide
theorem bit_any (d : Bool) (w : World) : Calls Tryz.prog 40 #[.bool d] w fun e w' => e = .returned (.int .i64 (bitI d)) ∧ w = w' := by
 cases d
 all_goals go_enter Tryz.func40, Tryz.ntmps40
 all_goals go_wp2
 all_goals go_ret
 all_goals exact ⟨rfl, rfl⟩
theorem locsF_len (L : Nat) (f : Int → Int) : (locsF L f).length ≤ L := by
 unfold locsF
 refine Nat.le_trans (List.length_filter_le _ _) ?_
 simp
def viewsT (L : Nat) (f : Int → Int) : List UInt8 := (locsF L f).flatMap (fun z => numsT [z, f z]) ++ [59]
theorem flat_take {α β : Type} {g : α → List β} {l : List α} {k : Nat} {a : α} (h : l[k]? = some a) : (l.take (k + 1)).flatMap g = (l.take k).flatMap g ++ g a := by
 rw [List.take_add_one, h]
 simp
theorem flat_le {α β : Type} {g : α → List β} {l : List α} (k : Nat) : ((l.take k).flatMap g).length ≤ (l.flatMap g).length := by
 conv => rhs; rw [← List.take_append_drop k l]
 rw [List.flatMap_append, List.length_append]
 omega
theorem ex_views (N b : Nat) (l : List UInt8) (L : Nat) (hL : L ≤ 4096) (a : VwV) (w : World) (h : Bld N b l w) (hN : 0 < N) (htab : Tab w) (ha : ∀ W, Below N w W → a.R L W) (hfb : ∀ z, a.f z ≤ 1000000) (hlen : (l ++ viewsT L a.f).length ≤ 140737488355328) :
  Calls Tryz.prog 78 #[.pointer (some ⟨b, 0, none⟩), .agg #[.map a.v]] w fun e w' => e = .returned (.tuple #[]) ∧ Bld N b (l ++ viewsT L a.f) w' ∧ Ext N b w w' := by
 have hbl := h.lt
 have hNw := h.2.1
 have hf0 : ∀ z, 0 ≤ a.f z := fun z => ((ha w (Below.refl _ _)).1 z).1
 have hloc := fun W (hW : Below N w W) => view_locs L hL a W (ha W hW)
 have Hloc := hide hloc
 have Ha := hide ha
 have Hfb := hide hfb
 have Hf0 := hide hf0
 have H := hide h
 have HT := hide htab
 have Hlen := hide hlen
 have HL := hide hL
 clear hloc ha hfb hf0 h htab hlen hL
 go_enter Tryz.func78, Tryz.ntmps78
 go_wp2_with (first
  | (go_at_call 121; refine (Hloc.out _ (Below.mono (B := w.heap.size) ab0 hNw)).mono ?_; rintro e w1 ⟨v, rfl, hrow, hb1⟩; obtain ⟨A, cp, rfl, hcp, hA⟩ := own_slice hrow; obtain ⟨hcc1, hff1, hs1⟩ := bC hb1; (try simp at hs1)))
 have c0 : w1.cell? ⟨w.heap.size, 0, none⟩ = some (.map a.v) := by go_simp
 have hz0 : w.heap.size < w1.heap.size := by omega
 have hB1 : Below w.heap.size w w1 := ab0
 have Hrow := hide hrow
 have hobj : w1.heap[w.heap.size]? = some (.cells #[.map a.v] 121 (0, 0)) := (hb1.block w.heap.size sM).trans (heap_new _ _ rfl)
 have Hobj := hide hobj
 clear hcc1 hff1 hb1 hobj hrow
 go_loopw [9] (fun i wr => ∃ k : Nat, i = .int .i64 k ∧ k ≤ (locsF L a.f).length ∧ Hid (Bld N b (l ++ ((locsF L a.f).take k).flatMap (fun z => numsT [z, a.f z])) wr) ∧ Hid (Ext N b w1 wr)) (fun i _ => (locsF L a.f).length - (intOf i).toNat)
 case atStart => exact ⟨0, rfl, by omega, hide (by simpa using H.out.below hB1), hide (Ext.refl _ _ _)⟩
 case round =>
  obtain ⟨k, rfl, hk, HB, HE⟩ := hrel
  by_cases hlt : (k : Int) < (locsF L a.f).length
  ·have hk1 : k < (locsF L a.f).length := by omega
   have hkb : (k : Int) + 1 ≤ 4096 := by have q := locsF_len L a.f; have q2 := HL.out; omega
   obtain ⟨z, hzk⟩ : ∃ z, (locsF L a.f)[k]? = some z := ⟨_, List.getElem?_eq_getElem hk1⟩
   have hzm := locsF_mem.1 (List.mem_of_getElem? hzk)
   obtain ⟨⟨z0, z1⟩, _⟩ := hzm
   obtain ⟨g, cp2, e, _, hg, hrd⟩ := own_some (HE.out.own Hrow.out dM (by simp; omega)) oM
   injection e with e1 e2 e3
   subst e1 e3
   obtain ⟨b', o', e', hb', hc'⟩ := hrd.2 oM
   injection e' with e'
   injection e' with e4 e5
   subst e4 e5
   have c1 := hc' k (.int .i64 z) (by rw [List.getElem?_map, hzk]; rfl)
   rw [Nat.zero_add] at c1
   have hob := HE.out.obj Hobj.out oM dM
   have c2 : wr.cell? ⟨w.heap.size, 0, none⟩ = some (.map a.v) := by simp [World.cell?, hob]
   have hzr : w.heap.size < wr.heap.size := Nat.lt_of_lt_of_le hz0 HE.out.size
   have hBwr : Below N w wr := (hB1.mono hNw).trans HE.out.1
   have hat := view_at L HL.out a z wr (Ha.out wr hBwr) z0 z1
   have Hat := hide hat
   have HTr := hide (HT.out.below hBwr hN)
   have q0 := Hf0.out z
   have q1 := Hfb.out z
   have hbr := HB.out.lt
   have hnum : ∀ W bk, Bld N b (l ++ ((locsF L a.f).take k).flatMap (fun z => numsT [z, a.f z])) W → Tab W → bk ≠ b → W.heap[bk]? = some (.cells #[.int .i64 z, .int .i64 (a.f z)] 2 (0, 0)) → Calls Tryz.prog 39 #[.pointer (some ⟨b, 0, none⟩), .slice (some ⟨bk, 0, none⟩) 2 2] W fun e w' => e = .returned (.tuple #[]) ∧ Bld N b (l ++ ((locsF L a.f).take k).flatMap (fun z => numsT [z, a.f z]) ++ numsT [z, a.f z]) w' ∧ Ext N b W w' := by
    intro W bk hB hT hne hbk
    have HL6 := HL.out
    refine ex_numbers N b _ [z, a.f z] bk W hB hN hbk hne hT (by
     intro y hy
     simp only [List.mem_cons, List.not_mem_nil, or_false] at hy
     rcases hy with rfl | rfl <;> omega) ?_ sM
    have q2 := flat_le (g := fun z => numsT [z, a.f z]) (l := locsF L a.f) (k + 1)
    rw [flat_take hzk] at q2
    have q3 := Hlen.out
    unfold viewsT at q3
    simp only [List.length_append] at q2 q3 ⊢
    omega
   have Hnum := hide hnum
   have Hzk := hide hzk
   have j0 : (0 : Int) ≤ (k : Int) := by omega
   have Hrd := hide hrd
   clear hzk hat hnum hob hBwr hrd hc'
   go_wp2_with (first
    | (go_at_call 48; refine Hat.out.mono ?_; rintro e w2 ⟨rfl, hb2⟩; have Hb2 := hide hb2; have hs2 := hb2.size; clear hb2)
    | (go_at_call 39; refine (Hnum.out _ w2.heap.size ((HB.out.below Hb2.out).below (Below.alloc (Below.refl _ _) (Nat.le_refl _) _)) ((HTr.out.below Hb2.out oM).below (N := w2.heap.size) (Below.alloc (Below.refl _ _) (Nat.le_refl _) _) oM) oM (heap_new _ _ rfl)).mono ?_; rintro e w3 ⟨rfl, hB3, hE3⟩; have HB3 := hide hB3; have HE3 := hide hE3; clear hB3 hE3))
   exact ⟨⟨k + 1, by go_num, by omega, hide (by rw [flat_take Hzk.out, ← List.append_assoc]; exact HB3.out), hide ((HE.out.trans (Ext.of (Hb2.out.trans ((Below.alloc (Below.refl _ _) (Nat.le_refl _) _).mono hs2)) HB.out.2.1)).trans HE3.out)⟩, by simp [intOf]; omega⟩
  ·obtain rfl : (locsF L a.f).length = k := by omega
   have hl1 : (l ++ ((locsF L a.f).take (locsF L a.f).length).flatMap (fun z => numsT [z, a.f z])).length + 1 ≤ 140737488355328 := by
    rw [List.take_length]
    have q3 := Hlen.out
    unfold viewsT at q3
    simp only [List.length_append, List.length_cons, List.length_nil] at q3 ⊢
    omega
   have Hl1 := hide hl1
   clear hl1
   go_wp2_with (first
    | (go_at_call 37; refine (wr_byte N b _ 59 59 _ HB.out (by rfl) Hl1.out).mono ?_; rintro e w3 ⟨rfl, hB3, hE3⟩))
   go_end0
   exact ⟨rfl, by rw [List.take_length] at hB3; rw [viewsT, ← List.append_assoc]; exact hB3, ((Ext.of hB1 hNw).trans HE.out).trans hE3⟩
end Go.Proofs.YtnnmenmifphadaaGreatDoor
