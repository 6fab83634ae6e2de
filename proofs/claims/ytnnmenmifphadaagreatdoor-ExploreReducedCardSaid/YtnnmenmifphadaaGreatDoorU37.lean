/- Package explore: memory: what it writes. -/
import Derived.Test.YtnnmenmifphadaaGreatDoorU27
import Derived.Test.YtnnmenmifphadaaGreatDoorU36
set_option linter.unusedSimpArgs false
set_option linter.unusedVariables false
set_option maxRecDepth 100000
set_option maxHeartbeats 40000000
namespace Go.Proofs.YtnnmenmifphadaaGreatDoor
open Go.RowKit Go.Maps Go.Sort
def msgT (L : Nat) (g : MsgV) : List UInt8 := rawT g.x ++ numsT [g.t] ++ viewsT L g.a.f
def histT (L : Nat) (h : HistV) : List UInt8 := h.l.flatMap (msgT L) ++ [47]
def memoryT (m : MemV) : List UInt8 := m.hs.flatMap (histT m.hs.length) ++ m.vs.flatMap (fun a => viewsT m.hs.length a.f)
def MsgV.okM (g : MsgV) : Prop := g.x.okW ∧ (-9223372036854775808 ≤ g.t ∧ g.t ≤ 9223372036854775807) ∧ ∀ z, g.a.f z ≤ 1000000
def MemV.okM (m : MemV) : Prop := m.hs.length ≤ 4096 ∧ m.vs.length ≤ 1000 ∧ (∀ h ∈ m.hs, h.l.length ≤ 1000000 ∧ ∀ g ∈ h.l, g.okM) ∧ ∀ a ∈ m.vs, ∀ z, a.f z ≤ 1000000
theorem mach_memory (m : MachV) (w : World) : Calls Tryz.prog 44 #[(maV m)] w (Ret (.agg #[.slice m.mem.pA m.mem.hs.length m.mem.pc, .slice m.mem.vA m.mem.vs.length m.mem.vc]) w) := by
 go_enter Tryz.func44, Tryz.ntmps44
 go_wp2_with fail
 exact bodyPost_ret (v := .agg #[.slice m.mem.pA m.mem.hs.length m.mem.pc, .slice m.mem.vA m.mem.vs.length m.mem.vc]) (by simp [results, Tryz.results44, go_sem]; (try go_simp)) rfl ⟨rfl, ab0⟩
theorem mem_bound {m : MemV} {l : List UInt8} {k i : Nat} {h : HistV} {g : MsgV} (hlen : (l ++ memoryT m).length ≤ 140737488355328) (hh : m.hs[k]? = some h) (hg : h.l[i]? = some g) : (l ++ (m.hs.take k).flatMap (histT m.hs.length) ++ (h.l.take i).flatMap (msgT m.hs.length)).length + (msgT m.hs.length g).length + 1 ≤ 140737488355328 := by
 have q1 := flat_le (g := histT m.hs.length) (l := m.hs) (k + 1)
 rw [flat_take hh] at q1
 have q2 := flat_le (g := msgT m.hs.length) (l := h.l) (i + 1)
 rw [flat_take hg] at q2
 unfold memoryT at hlen
 have q3 : (histT m.hs.length h).length = (h.l.flatMap (msgT m.hs.length)).length + 1 := by unfold histT; simp
 simp only [List.length_append] at q1 q2 hlen ⊢
 omega
theorem mem_bound2 {m : MemV} {l : List UInt8} {k : Nat} {h : HistV} (hlen : (l ++ memoryT m).length ≤ 140737488355328) (hh : m.hs[k]? = some h) : (l ++ (m.hs.take k).flatMap (histT m.hs.length) ++ h.l.flatMap (msgT m.hs.length)).length + 1 ≤ 140737488355328 := by
 have q1 := flat_le (g := histT m.hs.length) (l := m.hs) (k + 1)
 rw [flat_take hh] at q1
 unfold memoryT at hlen
 have q3 : (histT m.hs.length h).length = (h.l.flatMap (msgT m.hs.length)).length + 1 := by unfold histT; simp
 simp only [List.length_append] at q1 hlen ⊢
 omega
theorem mem_bound3 {m : MemV} {l : List UInt8} {k : Nat} {a : VwV} (hlen : (l ++ memoryT m).length ≤ 140737488355328) (ha : m.vs[k]? = some a) : (l ++ m.hs.flatMap (histT m.hs.length) ++ (m.vs.take k).flatMap (fun a => viewsT m.hs.length a.f) ++ viewsT m.hs.length a.f).length ≤ 140737488355328 := by
 have q1 := flat_le (g := fun (a : VwV) => viewsT m.hs.length a.f) (l := m.vs) (k + 1)
 rw [flat_take ha] at q1
 unfold memoryT at hlen
 simp only [List.length_append] at q1 hlen ⊢
 omega
theorem ex_memory (N b : Nat) (l : List UInt8) (m : MachV) (w : World) (h : Bld N b l w) (hN : 0 < N) (htab : Tab w) (hm : ∀ W, Below N w W → m.mem.R W) (hok : m.mem.okM) (hlen : (l ++ memoryT m.mem).length ≤ 140737488355328) :
  Calls Tryz.prog 36 #[.pointer (some ⟨b, 0, none⟩), (maV m)] w fun e w' => e = .returned (.tuple #[]) ∧ Bld N b (l ++ memoryT m.mem) w' ∧ Ext N b w w' := by
 have hbl := h.lt
 have hNw := h.2.1
 have hsz := fun W => mach_size m W
 have hmm := fun W => mach_memory m W
 have Hsz := hide hsz
 have Hmm := hide hmm
 have Hm := hide hm
 have H := hide h
 have HT := hide htab
 have Hlen := hide hlen
 have Hok := hide hok
 clear hsz hmm hm h htab hlen hok
 go_enter Tryz.func36, Tryz.ntmps36
 go_wp2_with (first
  | (go_at_call 54; refine (Hsz.out _).mono ?_; rintro e w1 ⟨rfl, hb1⟩; obtain ⟨hcc1, hff1, hs1⟩ := bC hb1; (try simp at hs1)))
 have hz0 : w.heap.size < w1.heap.size := by omega
 have hB1 : Below w.heap.size w w1 := ab0
 have hobj : w1.heap[w.heap.size]? = some (.cells #[.slice (m).mem.pA (m).mem.hs.length (m).mem.pc, .slice (m).mem.vA (m).mem.vs.length (m).mem.vc, .slice (m).ln.fA (m).ln.first.length (m).ln.fc, .slice (m).ln.lA (m).ln.logs.length (m).ln.lc, .map (m).ln.asks, .slice (m).sA (m).steps.length (m).sc, .int .i64 (m).crashes] 36 (0, 0)) := (hb1.block w.heap.size sM).trans (heap_new _ _ rfl)
 have Hobj := hide hobj
 have HB1 := hide hB1
 clear hcc1 hff1 hb1 hobj
 go_loopw [19] (fun i wr => ∃ k : Nat, i = .int .i64 k ∧ k ≤ m.mem.hs.length ∧ Hid (Bld N b (l ++ (m.mem.hs.take k).flatMap (histT m.mem.hs.length)) wr) ∧ Hid (Ext N b w1 wr)) (fun i _ => m.mem.hs.length - (intOf i).toNat)
 case atStart => exact ⟨0, rfl, by omega, hide (by simpa using H.out.below hB1), hide (Ext.refl _ _ _)⟩
 case round =>
  obtain ⟨k, rfl, hk, HB, HE⟩ := hrel
  by_cases hlt : (k : Int) < m.mem.hs.length
  ·have hk1 : k < m.mem.hs.length := by omega
   obtain ⟨hh, hhk⟩ : ∃ hh, m.mem.hs[k]? = some hh := ⟨_, List.getElem?_eq_getElem hk1⟩
   have hob := HE.out.obj Hobj.out oM dM
   have c0 : wr.cell? ⟨w.heap.size, 0, none⟩ = some (.slice m.mem.pA m.mem.hs.length m.mem.pc) := by simp [World.cell?, hob]
   have c1 : wr.cell? ⟨w.heap.size, 1, none⟩ = some (.slice m.mem.vA m.mem.vs.length m.mem.vc) := by simp [World.cell?, hob]
   have c2 : wr.cell? ⟨w.heap.size, 2, none⟩ = some (.slice m.ln.fA m.ln.first.length m.ln.fc) := by simp [World.cell?, hob]
   have c3 : wr.cell? ⟨w.heap.size, 3, none⟩ = some (.slice m.ln.lA m.ln.logs.length m.ln.lc) := by simp [World.cell?, hob]
   have c4 : wr.cell? ⟨w.heap.size, 4, none⟩ = some (.map m.ln.asks) := by simp [World.cell?, hob]
   have c5 : wr.cell? ⟨w.heap.size, 5, none⟩ = some (.slice m.sA m.steps.length m.sc) := by simp [World.cell?, hob]
   have c6 : wr.cell? ⟨w.heap.size, 6, none⟩ = some (.int .i64 m.crashes) := by simp [World.cell?, hob]
   have hzr : w.heap.size < wr.heap.size := Nat.lt_of_lt_of_le hz0 HE.out.size
   have hBwr : Below N w wr := (HB1.out.mono hNw).trans HE.out.1
   have HBwr := hide hBwr
   have hbr := HB.out.lt
   have hNr := HB.out.2.1
   have hhist := fun W (hW : Below N w W) => mem_history m.mem k hh W (Hm.out W hW) hhk
   have Hhist := hide hhist
   have Hhk := hide hhk
   clear hob hBwr hhist hhk
   go_upto_region 6 with (first
    | (go_at_call 44; refine (Hmm.out _).mono ?_; rintro e w2 ⟨rfl, hb2⟩; have Hb2 := hide hb2; have hs2 := hb2.size; clear hb2)
    | (go_at_call 45; refine (Hhist.out _ (HBwr.out.trans (Hb2.out.mono hNr))).mono ?_; rintro e w3 ⟨rfl, hb3⟩; have Hb3 := hide hb3; have hs3 := hb3.size; clear hb3))
   obtain ⟨w4, hw4⟩ : ∃ W : World, W = w3.alloc (.cells #[.slice hh.A hh.l.length hh.cap] 115) := ⟨_, rfl⟩
   have hB34 : Below w3.heap.size w3 w4 := by rw [hw4]; exact Below.alloc (Below.refl _ _) (Nat.le_refl _) _
   have hB4 : Below wr.heap.size wr w4 := (Hb2.out.trans (Hb3.out.mono hs2)).trans (hB34.mono (Nat.le_trans hs2 hs3))
   have hobH : w4.heap[w3.heap.size]? = some (.cells #[.slice hh.A hh.l.length hh.cap] 115 (0, 0)) := by rw [hw4]; exact heap_new _ _ rfl
   have hzH : w3.heap.size < w4.heap.size := by rw [hw4]; simp
   have c7 : w4.cell? ⟨w3.heap.size, 0, none⟩ = some (.slice hh.A hh.l.length hh.cap) := by simp [World.cell?, hobH]
   have HobH := hide hobH
   have HB4 := hide hB4
   have hbh : b < w3.heap.size := by omega
   rw [← hw4]
   clear hw4 hobH hB34 hB4 c0 c1 c2 c3 c4 c5 c6
   have hlenh := fun W => hist_len hh W
   have Hlenh := hide hlenh
   clear hlenh
   go_wp2_with (first
    | (go_at_call 46; refine (Hlenh.out _).mono ?_; rintro e w5 ⟨rfl, hb5⟩; have Hb5 := hide hb5; have hs5 := hb5.size; clear hb5))
   have HB5 := hide ((HB.out.below HB4.out).below Hb5.out)
   have HobH5 := hide ((Hb5.out.block w3.heap.size hzH).trans HobH.out)
   have hzH5 : w3.heap.size < w5.heap.size := Nat.lt_of_lt_of_le hzH hs5
   clear c7
   go_loopw [31] (fun i wq => ∃ j : Nat, i = .int .i64 j ∧ j ≤ hh.l.length ∧ Hid (Bld N b (l ++ (m.mem.hs.take k).flatMap (histT m.mem.hs.length) ++ (hh.l.take j).flatMap (msgT m.mem.hs.length)) wq) ∧ Hid (Ext N b w5 wq)) (fun i _ => hh.l.length - (intOf i).toNat)
   case atStart => exact ⟨0, rfl, by omega, hide (by simpa using HB5.out), hide (Ext.refl _ _ _)⟩
   case round =>
    obtain ⟨j, rfl, hj, HBq, HEq⟩ := hrel
    by_cases hltj : (j : Int) < hh.l.length
    ·have hj1 : j < hh.l.length := by omega
     obtain ⟨g, hgk⟩ : ∃ g, hh.l[j]? = some g := ⟨_, List.getElem?_eq_getElem hj1⟩
     have hobq := HEq.out.obj HobH5.out oM dM
     have d0 : wr.cell? ⟨w3.heap.size, 0, none⟩ = some (.slice hh.A hh.l.length hh.cap) := by simp [World.cell?, hobq]
     have hzq : w3.heap.size < wr.heap.size := Nat.lt_of_lt_of_le hzH5 HEq.out.size
     have hN4 : N ≤ w4.heap.size := Nat.le_trans hNr HB4.out.size
     have hBwq : Below N w wr := ((HBwr.out.trans (HB4.out.mono hNr)).trans (Hb5.out.mono hN4)).trans HEq.out.1
     have HBwq := hide hBwq
     have hNq := HBq.out.2.1
     have hbq := HBq.out.lt
     have hokh := (Hok.out.2.2.1 hh (List.mem_of_getElem? Hhk.out))
     have hgm : g.okM := hokh.2 g (List.mem_of_getElem? hgk)
     have gx := hgm.1
     have gt := hgm.2.1
     have gf := hgm.2.2
     have Hgx := hide gx
     have Hgf := hide gf
     obtain ⟨gt0, gt1⟩ := gt
     have hl6 : (hh.l.length : Int) ≤ 1000000 := by have := hokh.1; omega
     have hbd := mem_bound Hlen.out Hhk.out hgk
     have hmT : (msgT m.mem.hs.length g).length = (rawT g.x).length + (numsT [g.t]).length + (viewsT m.mem.hs.length g.a.f).length := by unfold msgT; simp only [List.length_append]
     have Hbd := hide (And.intro hbd hmT)
     have hat := fun W (hW : Below N w W) => hist_at m.mem.hs.length hh j g W ((Hm.out W hW).1.2.2.2 hh (List.mem_of_getElem? Hhk.out)) hgk
     have Hat := hide hat
     have hraw := fun W hB hT => ex_raw N b (l ++ (m.mem.hs.take k).flatMap (histT m.mem.hs.length) ++ (hh.l.take j).flatMap (msgT m.mem.hs.length)) g.x W hB hN hT Hgx.out (by have q := Hbd.out; simp only [List.length_append] at q ⊢; omega)
     have hnum : ∀ W bk, Bld N b (l ++ (m.mem.hs.take k).flatMap (histT m.mem.hs.length) ++ (hh.l.take j).flatMap (msgT m.mem.hs.length) ++ rawT g.x) W → Tab W → bk ≠ b → W.heap[bk]? = some (.cells #[.int .i64 g.t] 2 (0, 0)) → Calls Tryz.prog 39 #[.pointer (some ⟨b, 0, none⟩), .slice (some ⟨bk, 0, none⟩) 1 1] W fun e w' => e = .returned (.tuple #[]) ∧ Bld N b (l ++ (m.mem.hs.take k).flatMap (histT m.mem.hs.length) ++ (hh.l.take j).flatMap (msgT m.mem.hs.length) ++ rawT g.x ++ numsT [g.t]) w' ∧ Ext N b W w' := by
      intro W bk hB hT hne hbk
      refine ex_numbers N b _ [g.t] bk W hB hN hbk hne hT (by
       intro y hy
       simp only [List.mem_cons, List.not_mem_nil, or_false] at hy
       subst hy
       exact ⟨gt0, gt1⟩) ?_ sM
      have q := Hbd.out
      simp only [List.length_append] at q ⊢
      omega
     have hview := fun W hB hT (hW : Below N w W) => ex_views N b (l ++ (m.mem.hs.take k).flatMap (histT m.mem.hs.length) ++ (hh.l.take j).flatMap (msgT m.mem.hs.length) ++ rawT g.x ++ numsT [g.t]) m.mem.hs.length Hok.out.1 g.a W hB hN hT (fun W2 hW2 => (((Hm.out W2 (hW.trans hW2)).1.2.2.2 hh (List.mem_of_getElem? Hhk.out)).2.2.2 g (List.mem_of_getElem? hgk))) Hgf.out (by have q := Hbd.out; simp only [List.length_append] at q ⊢; omega)
     have Hraw := hide hraw
     have Hnum := hide hnum
     have Hview := hide hview
     have Hgk := hide hgk
     have j0 : (0 : Int) ≤ (j : Int) := by omega
     clear hobq hBwq hokh hgm gx gf hbd hmT hat hraw hnum hview hgk
     go_upto_region 10 with (first
      | (go_at_call 77; refine (Hat.out _ HBwq.out).mono ?_; rintro e w6 ⟨rfl, hb6⟩; have Hb6 := hide hb6; have hs6 := hb6.size; clear hb6))
     obtain ⟨w7, hw7⟩ : ∃ W : World, W = w6.alloc (.cells #[.int .i64 g.x.v, .int .u32 g.x.r, .int .u32 g.x.f, .int .i64 g.t, .map g.a.v] 170) := ⟨_, rfl⟩
     have hB67 : Below w6.heap.size w6 w7 := by rw [hw7]; exact Below.alloc (Below.refl _ _) (Nat.le_refl _) _
     have hB7 : Below wr.heap.size wr w7 := Hb6.out.trans (hB67.mono hs6)
     have hob7 : w7.heap[w6.heap.size]? = some (.cells #[.int .i64 g.x.v, .int .u32 g.x.r, .int .u32 g.x.f, .int .i64 g.t, .map g.a.v] 170 (0, 0)) := by rw [hw7]; exact heap_new _ _ rfl
     have e0 : w7.cell? ⟨w6.heap.size, 0, none⟩ = some (.int .i64 g.x.v) := by simp [World.cell?, hob7]
     have e1 : w7.cell? ⟨w6.heap.size, 1, none⟩ = some (.int .u32 g.x.r) := by simp [World.cell?, hob7]
     have e2 : w7.cell? ⟨w6.heap.size, 2, none⟩ = some (.int .u32 g.x.f) := by simp [World.cell?, hob7]
     have hz7 : w6.heap.size < w7.heap.size := by rw [hw7]; simp
     have Hob7 := hide hob7
     have HB7 := hide hB7
     have hb6n : w6.heap.size ≠ b := by omega
     have hN7 : 0 < w7.heap.size := by omega
     have hBw7 := hide (HBwq.out.trans (hB7.mono hNq))
     have HT7 := hide (HT.out.below hBw7.out hN)
     rw [← hw7]
     clear hw7 hob7 hB67 hB7 d0
     go_wp2_with (first
      | (go_at_call 42; refine (Hraw.out _ (HBq.out.below HB7.out) HT7.out).mono ?_; rintro e w8 ⟨rfl, hB8, hE8⟩; have HB8 := hide hB8; have HE8 := hide hE8; have hob8 := hE8.obj Hob7.out hb6n dM; have f3 : w8.cell? ⟨w6.heap.size, 3, none⟩ = some (.int .i64 g.t) := (by simp [World.cell?, hob8]); have Hob8 := hide hob8; have hz8 : w6.heap.size < w8.heap.size := Nat.lt_of_lt_of_le hz7 hE8.size; have HT8 := hide (HT7.out.below hE8.1 hN); have hbl8 := hB8.lt; clear hB8 hE8 hob8)
      | (go_at_call 39; refine (Hnum.out _ w8.heap.size (HB8.out.below (Below.alloc (Below.refl _ _) (Nat.le_refl _) _)) (HT8.out.below (N := w8.heap.size) (Below.alloc (Below.refl _ _) (Nat.le_refl _) _) oM) oM (heap_new _ _ rfl)).mono ?_; rintro e w9 ⟨rfl, hB9, hE9⟩; have HB9 := hide hB9; have HE9 := hide (((Ext.of HB7.out hNq).trans HE8.out).trans ((Ext.of (b := b) (Below.alloc (Below.refl _ _) (Nat.le_refl _) _) HB8.out.2.1).trans hE9)); have hob9 := ((Ext.of (N := N) (b := b) (Below.alloc (Below.refl _ _) (Nat.le_refl _) _) HB8.out.2.1).trans hE9).obj Hob8.out hb6n dM; have f4 : w9.cell? ⟨w6.heap.size, 4, none⟩ = some (.map g.a.v) := (by simp [World.cell?, hob9]); have hz9 : w6.heap.size < w9.heap.size := Nat.lt_of_lt_of_le hz8 (Nat.le_trans sM hE9.size); have HT9 := hide (HT.out.below (HBwq.out.trans HE9.out.1) hN); clear hB9 hE9 hob9)
      | (go_at_call 78; refine (Hview.out _ HB9.out HT9.out (HBwq.out.trans HE9.out.1)).mono ?_; rintro e w10 ⟨rfl, hB10, hE10⟩; have HB10 := hide hB10; have HE10 := hide hE10; clear hB10 hE10))
     exact ⟨⟨j + 1, by go_num, by omega, hide (by rw [flat_take Hgk.out]; have q := HB10.out; rw [show msgT m.mem.hs.length g = rawT g.x ++ numsT [g.t] ++ viewsT m.mem.hs.length g.a.f from rfl]; simpa only [List.append_assoc] using q), hide ((HEq.out.trans HE9.out).trans HE10.out)⟩, by simp [intOf]; omega⟩
    ·obtain rfl : hh.l.length = j := by omega
     have hbd := mem_bound2 Hlen.out Hhk.out
     have Hbd := hide hbd
     have hkb : (k : Int) + 1 ≤ 4096 := by have q2 := Hok.out.1; omega
     clear hbd
     go_wp2_with (first
      | (go_at_call 37; refine (wr_byte N b _ 47 47 _ HBq.out (by rfl) (by rw [List.take_length]; exact Hbd.out)).mono ?_; rintro e w11 ⟨rfl, hB11, hE11⟩; have HB11 := hide hB11; have HE11 := hide hE11; clear hB11 hE11))
     have HEx := hide ((((HE.out.trans (Ext.of HB4.out hNr)).trans (Ext.of Hb5.out (Nat.le_trans hNr HB4.out.size))).trans HEq.out).trans HE11.out)
     exact ⟨⟨k + 1, by go_num, by omega, hide (by rw [flat_take Hhk.out]; have q := HB11.out; rw [List.take_length] at q; rw [show histT m.mem.hs.length hh = hh.l.flatMap (msgT m.mem.hs.length) ++ [47] from rfl]; simpa only [List.append_assoc] using q), HEx⟩, by simp [intOf]; omega⟩
  ·obtain rfl : m.mem.hs.length = k := by omega
   have hvb : (m.mem.vs.length : Int) ≤ 1000 := by have q2 := Hok.out.2.1; omega
   go_wp2_with fail
   have HBe := hide (by have q := HB.out; rw [List.take_length] at q; exact q : Bld N b (l ++ m.mem.hs.flatMap (histT m.mem.hs.length)) wr)
   have HEe := hide HE.out
   have Hobr := hide (HE.out.obj Hobj.out oM dM)
   have hzr : w.heap.size < wr.heap.size := Nat.lt_of_lt_of_le hz0 HE.out.size
   have HBw := hide ((HB1.out.mono hNw).trans HE.out.1)
   clear HB HE hlt
   go_loopw [12] (fun i wq => ∃ j : Nat, i = .int .i64 ((j : Int) + 1) ∧ j ≤ m.mem.vs.length ∧ Hid (Bld N b (l ++ m.mem.hs.flatMap (histT m.mem.hs.length) ++ (m.mem.vs.take j).flatMap (fun a => viewsT m.mem.hs.length a.f)) wq) ∧ Hid (Ext N b w1 wq)) (fun i _ => m.mem.vs.length + 1 - (intOf i).toNat)
   case atStart => exact ⟨0, rfl, by omega, hide (by simpa using HBe.out), HEe⟩
   case round =>
    obtain ⟨j, rfl, hj, HBq, HEq⟩ := hrel
    by_cases hltj : (j : Int) + 1 ≤ m.mem.vs.length
    ·have hj1 : j < m.mem.vs.length := by omega
     obtain ⟨a, hak⟩ : ∃ a, m.mem.vs[j]? = some a := ⟨_, List.getElem?_eq_getElem hj1⟩
     have hob := HEq.out.obj Hobj.out oM dM
     have c0 : wr.cell? ⟨w.heap.size, 0, none⟩ = some (.slice m.mem.pA m.mem.hs.length m.mem.pc) := by simp [World.cell?, hob]
     have c1 : wr.cell? ⟨w.heap.size, 1, none⟩ = some (.slice m.mem.vA m.mem.vs.length m.mem.vc) := by simp [World.cell?, hob]
     have c2 : wr.cell? ⟨w.heap.size, 2, none⟩ = some (.slice m.ln.fA m.ln.first.length m.ln.fc) := by simp [World.cell?, hob]
     have c3 : wr.cell? ⟨w.heap.size, 3, none⟩ = some (.slice m.ln.lA m.ln.logs.length m.ln.lc) := by simp [World.cell?, hob]
     have c4 : wr.cell? ⟨w.heap.size, 4, none⟩ = some (.map m.ln.asks) := by simp [World.cell?, hob]
     have c5 : wr.cell? ⟨w.heap.size, 5, none⟩ = some (.slice m.sA m.steps.length m.sc) := by simp [World.cell?, hob]
     have c6 : wr.cell? ⟨w.heap.size, 6, none⟩ = some (.int .i64 m.crashes) := by simp [World.cell?, hob]
     have hzr2 : w.heap.size < wr.heap.size := Nat.lt_of_lt_of_le hz0 HEq.out.size
     have HBwr := hide ((HB1.out.mono hNw).trans HEq.out.1)
     have hNr := HBq.out.2.1
     have hbd := mem_bound3 Hlen.out hak
     have hafb := Hok.out.2.2.2 a (List.mem_of_getElem? hak)
     have hseen := fun W (hW : Below N w W) => mem_seen m.mem j a W (Hm.out W hW) hak (by have := Hok.out.2.1; omega)
     have hview := fun W hB hT (hW : Below N w W) => ex_views N b (l ++ m.mem.hs.flatMap (histT m.mem.hs.length) ++ (m.mem.vs.take j).flatMap (fun a => viewsT m.mem.hs.length a.f)) m.mem.hs.length Hok.out.1 a W hB hN hT (fun W2 hW2 => (Hm.out W2 (hW.trans hW2)).2.2.2.2 a (List.mem_of_getElem? hak)) hafb hbd
     have Hseen := hide hseen
     have Hview := hide hview
     have Hak := hide hak
     have j0 : (0 : Int) ≤ (j : Int) + 1 := by omega
     clear hob hak hbd hafb hseen hview
     go_wp2_with (first
      | (go_at_call 44; refine (Hmm.out _).mono ?_; rintro e w2 ⟨rfl, hb2⟩; have Hb2 := hide hb2; have hs2 := hb2.size; clear hb2)
      | (go_at_call 47; refine (Hseen.out _ (HBwr.out.trans (Hb2.out.mono hNr))).mono ?_; rintro e w3 ⟨rfl, hb3⟩; have Hb3 := hide hb3; have hs3 := hb3.size; have HE3 := hide (Ext.of (N := N) (b := b) (Hb2.out.trans (hb3.mono hs2)) hNr); clear hb3)
      | (go_at_call 78; refine (Hview.out _ (HBq.out.below (Hb2.out.trans (Hb3.out.mono hs2))) (HT.out.below (HBwr.out.trans HE3.out.1) hN) (HBwr.out.trans HE3.out.1)).mono ?_; rintro e w10 ⟨rfl, hB10, hE10⟩; have HB10 := hide hB10; have HE10 := hide hE10; clear hB10 hE10))
     exact ⟨⟨j + 1, by go_num, by omega, hide (by rw [flat_take Hak.out, ← List.append_assoc]; exact HB10.out), hide ((HEq.out.trans HE3.out).trans HE10.out)⟩, by simp [intOf]; omega⟩
    ·obtain rfl : m.mem.vs.length = j := by omega
     go_wp2
     go_end0
     exact ⟨rfl, by have q := HBq.out; rw [List.take_length] at q; unfold memoryT; rw [← List.append_assoc]; exact q, (Ext.of HB1.out hNw).trans HEq.out⟩
theorem mach_lines (m : MachV) (w : World) : Calls Tryz.prog 80 #[(maV m)] w (Ret (.agg #[.slice (m.ln).fA (m.ln).first.length (m.ln).fc, .slice (m.ln).lA (m.ln).logs.length (m.ln).lc, .map (m.ln).asks]) w) := by
 go_enter Tryz.func80, Tryz.ntmps80
 go_wp2_with fail
 exact bodyPost_ret (v := (.agg #[.slice (m.ln).fA (m.ln).first.length (m.ln).fc, .slice (m.ln).lA (m.ln).logs.length (m.ln).lc, .map (m.ln).asks])) (by simp [results, Tryz.results80, go_sem]; (try go_simp)) rfl ⟨rfl, ab0⟩
theorem line_kept (m : LinesV) (k : Nat) (g : LogV) (w : World) (hR : m.R w) (hg : m.logs[k]? = some g) : Calls Tryz.prog 81 #[(.agg #[.slice (m).fA (m).first.length (m).fc, .slice (m).lA (m).logs.length (m).lc, .map (m).asks]), .int .i64 k] w (Ret (.tuple #[.int .i64 g.kept, .int .i64 g.l.length]) w) := by
 have hk : k < m.logs.length := (List.getElem?_eq_some_iff.1 hg).1
 obtain ⟨b, off, e, hb, hc⟩ := Rd.elem hR.2.2.2.1 logc_len hk hg
 have c0 : w.cell? ⟨b, off + k * 2, none⟩ = some (.slice g.A g.l.length g.cap) := hc 0 _ rfl
 have c1 : w.cell? ⟨b, off + k * 2 + 1, none⟩ = some (.int .i64 g.kept) := hc 1 _ rfl
 obtain ⟨fA, fc, first, lA, lc, logs, asks⟩ := m
 simp only at e hk
 subst e
 have h0 : ¬ ((k : Int) < 0) := by omega
 have h0' : (0 : Int) ≤ (k : Int) := by omega
 have h1 : (k : Int) < (logs.length : Int) := by omega
 have h2 : ¬ ((k : Int) ≥ (logs.length : Int)) := by omega
 have h3 : ¬ ((logs.length : Int) ≤ (k : Int)) := by omega
 have hbz : b < w.heap.size + 1 := by omega
 clear hR hg hc hk
 go_enter Tryz.func81, Tryz.ntmps81
 go_wp2_with fail
 have q0 : (w.alloc (.cells #[.slice fA first.length fc, .slice (some ⟨b, off, none⟩) logs.length lc, .map asks] 33)).cell? ⟨b, off + k * 2, none⟩ = some (.slice g.A g.l.length g.cap) := by go_simp
 have q1 : (w.alloc (.cells #[.slice fA first.length fc, .slice (some ⟨b, off, none⟩) logs.length lc, .map asks] 33)).cell? ⟨b, off + k * 2 + 1, none⟩ = some (.int .i64 g.kept) := by go_simp
 have q2 : (w.alloc (.cells #[.slice fA first.length fc, .slice (some ⟨b, off, none⟩) logs.length lc, .map asks] 33)).cell? ⟨w.heap.size, 1, none⟩ = some (.slice (some ⟨b, off, none⟩) logs.length lc) := by go_simp
 refine wp_region_held_drew (S := (fun w' => w'.cell? ⟨b, off + k * 2, none⟩ = some (.slice g.A g.l.length g.cap) ∧ w'.cell? ⟨b, off + k * 2 + 1, none⟩ = some (.int .i64 g.kept) ∧ w'.cell? ⟨w.heap.size, 1, none⟩ = some (.slice (some ⟨b, off, none⟩) logs.length lc))) kR ⟨q0, q1, q2⟩ (fun hHeld => ?_)
 refine tq1 0 ?_
 refine tq1 1 ?_
 refine tq1 2 ?_
 refine tq1 3 ?_
 refine tq1 4 ?_
 refine tq1 5 ?_
 refine tq1 6 ?_
 refine tq1 7 ?_
 refine tq1 8 ?_
 refine tq1 9 ?_
 refine tq1 10 ?_
 refine tq1 11 ?_
 refine tq1 12 ?_
 refine tq1 13 ?_
 refine tq1 14 ?_
 refine wD ?_
 go_wp2_with fail
 go_ret2
 exact ⟨rfl, ab0⟩
theorem ones_logs (l : List LogV) : ∀ u ∈ l.flatMap logc, u.oneCell' = true := by
 intro u hu
 obtain ⟨y, -, hy⟩ := List.mem_flatMap.1 hu
 simp [logc] at hy
 rcases hy with rfl | rfl <;> rfl
theorem clone_asks (w : World) : Calls Tryz.prog 125 #[.map none] w fun e w' => e = .returned (.map none) ∧ w' = w := by
 have hq := fun (w : World) (r : Option Nat) => run_eql_map_nil (P := Tryz.prog) w _ _ _ r Tryz.underlying31
 go_enter Tryz.func125, Tryz.ntmps125
 go_wp2
 go_ret
 exact ⟨rfl, rfl⟩
theorem line_thread (t : Nat) (w : World) (ht : t < 8) : Calls Tryz.prog 123 #[.int .i64 ((t : Int) + 1)] w fun e w' => e = .returned (.bool true) ∧ w = w' := by
 have h1 : (1 : Int) ≤ (t : Int) + 1 := by omega
 have h2 : (t : Int) + 1 ≤ 8 := by omega
 go_enter Tryz.func123, Tryz.ntmps123
 go_wp2
 go_ret
 exact ⟨rfl, rfl⟩
theorem line_sync0 (m : LinesV) (t : Nat) (w : World) (hR : m.R w) (ht : t < 8) (ha : m.asks = none) (hl : m.logs.length ≤ 4096) : Calls Tryz.prog 82 #[(.agg #[.slice (m).fA (m).first.length (m).fc, .slice (m).lA (m).logs.length (m).lc, .map (m).asks]), .int .i64 ((t : Int) + 1)] w fun e w' => ∃ (lA' : Option Addr) (lc' : Nat), e = .returned (.tuple #[.agg #[.slice m.fA m.first.length m.fc, .slice lA' m.logs.length lc', .map none], .int .i64 0]) ∧ LinesV.R w' ⟨m.fA, m.fc, m.first, lA', lc', m.logs, none⟩ ∧ (∀ c o, lA' = some ⟨c, o, none⟩ → w.heap.size ≤ c) ∧ Below w.heap.size w w' := by
 obtain ⟨fA, fc, first, lA, lc, logs, asks⟩ := m
 simp only at ha hl
 subst ha
 have hlg := hR.2.2.2
 obtain ⟨hla, hrl, hgs⟩ : (lA = none → logs.length = 0) ∧ Rd w w.heap.size 2 lA logs.length (logs.flatMap logc) ∧ ∀ g ∈ logs, g.R w := ⟨hR.2.2.1, hR.2.2.2.1, hR.2.2.2.2⟩
 have hcl := fun W (h : Rd W W.heap.size 2 lA logs.length (logs.flatMap logc)) => clone_L lA logs.length lc (logs.flatMap logc) W h hla (ones_logs logs) oM
 have hlk : ∀ W, (Instr.lookup 31 (.map none) (.int .i64 ((t : Int) + 1)) false).run Tryz.prog W = .ok (.map none) W := fun W => Maps.look_nil false (int_keyed Tryz.underlying3) Tryz.underlying31 (Tryz.zeroValue220 W) (keyOf_int_mk Tryz.underlying3 (WalkArith.wf_i64 oM))
 have hdl : ∀ ty W, (Builtin.delete_ #[31, 3] ty #[.map none, .int .i64 ((t : Int) + 1)]).run Tryz.prog W = .ok (.tuple #[]) W := fun ty W => by simp [Builtin.delete_, run_underlying Tryz.underlying31, MapKept.run_checkKey Tryz.underlying3 (show MapKept.IsKey (.int .i64) (.int .i64 ((t : Int) + 1)) from rfl), Result.andThen]
 have hrg : ∀ W, (Instr.range 220 (.map none)).run Tryz.prog W = .ok (.pointer (some ⟨W.heap.size, 0, none⟩)) (W.alloc (.mapIter none 0 #[] 0)) := fun W => by simp [Instr.range, run_underlying Tryz.underlying220]
 have hnx : ∀ (W : World) (a : Nat) (ty : TypeId), a = W.heap.size → (Instr.next (.pointer (some ⟨a, 0, none⟩)) false ty).run Tryz.prog (W.alloc (.mapIter none 0 #[] 0)) = .ok (.tuple #[.bool false]) (W.alloc (.mapIter none 0 #[] 0)) := fun W a ty e => by
  subst e
  simp only [Instr.next, getObj, Sem.run_bind, Sem.run, Go.heap_alloc_new, Result.andThen]
  rfl
 have Hcl := hide hcl
 have Hrl := hide hrl
 have HR := hide hR
 clear hlg hcl hrl hR hgs hla
 go_enter Tryz.func82, Tryz.ntmps82
 go_wp2_with (first
  | (go_at_call 123; refine (line_thread t _ ht).mono ?_; rintro e w1 ⟨rfl, rfl⟩)
  | (go_at_call 124; refine (Hcl.out _ ((Hrl.out.below ab0).more (by simp; omega))).mono ?_; rintro e w2 ⟨A', lc', rfl, how2, hb2⟩; obtain ⟨hcc2, hff2, hs2⟩ := bC hb2; (try simp at hs2); have hz0 : w.heap.size < w2.heap.size := oM; have hz1 : w.heap.size + 1 < w2.heap.size := oM))
 refine wp_loop_rounds 1 ?_
 rw [rounds_succ]
 have f1 : w2.frozen? ⟨w.heap.size, 1, none⟩ = false := by go_simp
 go_upto_region 8 with fail
 obtain ⟨w3, hw3⟩ : ∃ W : World, W = w2.setCell ⟨w.heap.size, 1, none⟩ (.slice A' logs.length lc') := ⟨_, rfl⟩
 have g0 : w3.cell? ⟨w.heap.size, 0, none⟩ = some (.slice fA first.length fc) := by rw [hw3]; go_simp
 have g1o : w2.cell? ⟨w.heap.size, 1, none⟩ = some (.slice lA logs.length lc) := by go_simp
 have g1 : w3.cell? ⟨w.heap.size, 1, none⟩ = some (.slice A' logs.length lc') := by rw [hw3]; exact World.cell?_setCell_same _ _ _ g1o
 have g2 : w3.cell? ⟨w.heap.size, 2, none⟩ = some (.map none) := by rw [hw3]; go_simp
 have g3 : w3.cell? ⟨w.heap.size + 1, 0, none⟩ = some (.slice none 0 0) := by rw [hw3]; go_simp
 have g4 : w3.cell? ⟨w.heap.size + 1, 1, none⟩ = some (.slice none 0 0) := by rw [hw3]; go_simp
 have g5 : w3.cell? ⟨w.heap.size + 1, 2, none⟩ = some (.map none) := by rw [hw3]; go_simp
 have k0 : ∀ o, w3.frozen? ⟨w.heap.size, o, none⟩ = false := by intro o; rw [hw3]; go_simp
 have k1 : ∀ o, w3.frozen? ⟨w.heap.size + 1, o, none⟩ = false := by intro o; rw [hw3]; go_simp
 have hs3 : w3.heap.size = w2.heap.size := by rw [hw3]; simp
 have hB3 : Below w.heap.size w w3 := by rw [hw3]; exact ab0
 have how3 : w3.ownsRow (w.heap.size + 1 + 1) 217 2 (.slice A' logs.length lc') logs.length (logs.flatMap logc) := by
  have q : w2.ownsRow (w.heap.size + 1 + 1) 217 2 (.slice A' logs.length lc') logs.length (logs.flatMap logc) := by simpa using how2
  obtain ⟨h1, h2⟩ := q
  refine ⟨h1, ?_⟩
  rcases h2 with h2 | ⟨g, cap, cur, e, hg, ho, h3⟩
  ·exact .inl h2
  ·exact .inr ⟨g, cap, cur, e, hg, by rw [hw3, Below.heap_setCell _ _ _ _ (by show g ≠ w.heap.size; omega)]; exact ho, h3⟩
 obtain ⟨w4, hw4⟩ : ∃ W : World, W = w3.alloc (.mapIter none 0 #[] 0) := ⟨_, rfl⟩
 have hB34 : Below w3.heap.size w3 w4 := by rw [hw4]; exact Below.alloc (Below.refl _ _) (Nat.le_refl _) _
 have hz30 : w.heap.size < w3.heap.size := by omega
 have hz31 : w.heap.size + 1 < w3.heap.size := by omega
 have j0 := (hB34.cell (p := ⟨w.heap.size, 0, none⟩) hz30).trans g0
 have j1 := (hB34.cell (p := ⟨w.heap.size, 1, none⟩) hz30).trans g1
 have j2 := (hB34.cell (p := ⟨w.heap.size, 2, none⟩) hz30).trans g2
 have j3 := (hB34.cell (p := ⟨w.heap.size + 1, 0, none⟩) hz31).trans g3
 have j4 := (hB34.cell (p := ⟨w.heap.size + 1, 1, none⟩) hz31).trans g4
 have j5 := (hB34.cell (p := ⟨w.heap.size + 1, 2, none⟩) hz31).trans g5
 have i0 : ∀ o, w4.frozen? ⟨w.heap.size, o, none⟩ = false := fun o => (hB34.frozen (p := ⟨w.heap.size, o, none⟩) hz30).trans (k0 o)
 have i1 : ∀ o, w4.frozen? ⟨w.heap.size + 1, o, none⟩ = false := fun o => (hB34.frozen (p := ⟨w.heap.size + 1, o, none⟩) hz31).trans (k1 o)
 have hB4 : Below w.heap.size w w4 := hB3.trans (hB34.mono oM)
 have hw34 : w4 = (w2.setCell ⟨w.heap.size, 1, none⟩ (.slice A' logs.length lc')).alloc (.mapIter none 0 #[] 0) := by rw [hw4, hw3]
 rw [← hw34]
 obtain ⟨cA, hlc, hA⟩ := own_cap' how3
 have hR4 : LinesV.R w4 ⟨fA, fc, first, A', lc', logs, none⟩ := ⟨(HR.out.below hB4).1, cA, hlc, (hA.below hB34).more hB34.size, (HR.out.below hB4).2.2.2.2⟩
 have hoff : ∀ C, w.heap.size ≤ C → C < w.heap.size + 1 + 1 → LinesV.off C ⟨fA, fc, first, A', lc', logs, none⟩ := fun C h1 h2 => ⟨OffC.new HR.out.1.2.2 h1, (fun _ b o e => by
  have e' : A' = some ⟨b, o, none⟩ := e
  have q := (how3.lt b (by rw [e']; rfl)).1
  omega), fun x hx => OffC.new (HR.out.2.2.2.2 x hx).2.2 h1⟩
 have hnewA : ∀ c o, A' = some ⟨c, o, none⟩ → w.heap.size ≤ c := fun c o e => by
  have q := (how3.lt c (by rw [e]; rfl)).1
  omega
 have HnewA := hide hnewA
 clear hnewA
 have HR4 := hide hR4
 have Hoff := hide hoff
 have HB4 := hide hB4
 clear hw34 hw4 hw3 hR4 hoff hB4 hB34 hB3 how3 how2 hb2 hcc2 hff2 g0 g1 g1o g2 g3 g4 g5 k0 k1 hA hs3 f1
 go_wp2_with (first
  | (go_at_call 125; refine (clone_asks _).mono ?_; rintro e w5 ⟨rfl, hw5⟩; subst hw5))
 have HZ := hide (((((HR4.out.set (Hoff.out w.heap.size (Nat.le_refl _) oM) (C := w.heap.size) (o := 2) (.map none)).set (Hoff.out (w.heap.size + 1) oM oM) (C := w.heap.size + 1) (o := 0) (.slice fA first.length fc)).set (Hoff.out (w.heap.size + 1) oM oM) (C := w.heap.size + 1) (o := 1) (.slice A' logs.length lc')).set (Hoff.out (w.heap.size + 1) oM oM) (C := w.heap.size + 1) (o := 2) (.map none)))
 have HB := hide (Below.setCell (Below.setCell (Below.setCell (Below.setCell HB4.out (p := ⟨w.heap.size, 2, none⟩) (Nat.le_refl _) (.map none)) (p := ⟨w.heap.size + 1, 0, none⟩) (by show w.heap.size ≤ w.heap.size + 1; omega) (.slice fA first.length fc)) (p := ⟨w.heap.size + 1, 1, none⟩) (by show w.heap.size ≤ w.heap.size + 1; omega) (.slice A' logs.length lc')) (p := ⟨w.heap.size + 1, 2, none⟩) (by show w.heap.size ≤ w.heap.size + 1; omega) (.map none))
 refine bodyPost_ret (v := .tuple #[.agg #[.slice fA first.length fc, .slice A' logs.length lc', .map none], .int .i64 0]) (by simp [results, Tryz.results82, go_sem]; (try go_simp)) rfl ⟨A', lc', rfl, ?_, HnewA.out, ?_⟩
 ·with_reducible exact HZ.out
 ·with_reducible exact HB.out
end Go.Proofs.YtnnmenmifphadaaGreatDoor
