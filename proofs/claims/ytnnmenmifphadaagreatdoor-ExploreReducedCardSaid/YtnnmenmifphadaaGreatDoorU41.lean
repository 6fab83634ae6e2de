/- Package task: Gots, Done; what a task's part of a key is. -/
import Derived.Test.YtnnmenmifphadaaGreatDoorU32
import Derived.Test.YtnnmenmifphadaaGreatDoorU40
set_option linter.unusedSimpArgs false
set_option linter.unusedVariables false
set_option maxRecDepth 100000
set_option maxHeartbeats 40000000
namespace Go.Proofs.YtnnmenmifphadaaGreatDoor
open Go.RowKit Go.Maps Go.Sort
theorem info_cG : (Tryz.prog.info? 99).map (fun i => (i.zero, i.size, i.bytes)) = some (some (.agg #[.int .i64 0, .int .u32 0, .int .u32 0, .bool false]), 4, 24) := by kernel_rfl
theorem clone_G (A : Option Addr) (n cap : Nat) (xs : List Value) (w : World) (hr : Rd w w.heap.size 4 A n xs) (hA : A = none → n = 0) (h1 : ∀ u ∈ xs, u.oneCell' = true) (hn : n ≤ 1000000) :
  Calls Tryz.prog 76 #[.slice A n cap] w fun e w' => ∃ A' cap', e = .returned (.slice A' n cap') ∧ w'.ownsRow w.heap.size 99 4 (.slice A' n cap') n xs ∧ Below w.heap.size w w' := by
 obtain ⟨i0, hi0, jz0, jz1, jz2⟩ := info_parts info_cG
 have hi := hide hi0
 have iz0 := hide jz0
 have iz1 := hide jz1
 have iz2 := hide jz2
 clear hi0 jz0 jz1 jz2
 have Hr := hide hr
 have H1 := hide h1
 cases A with
 | none =>
  obtain rfl : n = 0 := hA rfl
  have hx : xs = [] := List.eq_nil_of_length_eq_zero (by simpa using hr.1)
  subst hx
  have heq : ∀ W : World, (binOp .eql 73 (.slice none 0 cap) (.slice none 0 0)).run Tryz.prog W = .ok (.bool true) W := fun W => by kernel_rfl
  clear hr hA
  go_enter Tryz.func76, Tryz.ntmps76
  go_wp2_with fail
  go_ret
  exact ⟨none, 0, rfl, World.ownsRow_nil _ _ _ _, ab0⟩
 | some a =>
  have heq : ∀ W : World, (binOp .eql 73 (.slice (some a) n cap) (.slice none 0 0)).run Tryz.prog W = .ok (.bool false) W := fun W => by kernel_rfl
  clear hr hA h1
  go_enter Tryz.func76, Tryz.ntmps76
  go_wp2_with (first
   | (at_builtin; refine wpList_append_rd rfl _ _ 73 rfl w.heap.size 99 i0 _ 4 24 Tryz.underlying73 hi.out iz0.out iz1.out iz2.out rfl dM (.slice (some ⟨w.heap.size, 0, none⟩) 0 0) 0 [] rfl (World.ownsRow_made w #[] 0 (Nat.le_refl _) (Nat.zero_le _) rfl) (some a) n cap xs rfl w.heap.size (Hr.out.below ab0) H1.out (by unfold maxLen; omega) oM sM w.heap.size w ab0 (Nat.le_refl _) ?_; intro v' w6 hown6 hb6 hsz6))
  rw [Nat.zero_add, List.nil_append] at hown6
  obtain ⟨A', cap', rfl, hcp, hbl⟩ := own_slice hown6
  go_wp2_with fail
  go_ret
  exact ⟨A', cap', rfl, hown6, ab0⟩
theorem gots_ones (l : List GS) : ∀ u ∈ l.flatMap gotc, u.oneCell' = true := by
 intro u hu
 obtain ⟨y, -, hy⟩ := List.mem_flatMap.1 hu
 simp [gotc] at hy
 rcases hy with rfl | rfl | rfl | rfl <;> rfl
theorem task_gots (k : TaskV) (w : World) (hg : GotsR w k.A k.m k.cp (k.l.flatMap gotc)) (hm : k.m ≤ 1000000) : Calls Tryz.prog 35 #[(tkV k)] w fun e w' => ∃ A' cap', e = .returned (.slice A' k.m cap') ∧ w'.ownsRow w.heap.size 99 4 (.slice A' k.m cap') k.m (k.l.flatMap gotc) ∧ Below w.heap.size w w' := by
 obtain ⟨h1, h2, h3⟩ := hg
 have hcl := fun W (h : Rd W W.heap.size 4 k.A k.m (k.l.flatMap gotc)) => clone_G k.A k.m k.cp (k.l.flatMap gotc) W h h2 (gots_ones k.l) hm
 have Hcl := hide hcl
 have H3 := hide h3
 clear hcl h1 h2 h3
 go_enter Tryz.func35, Tryz.ntmps35
 go_wp2_with (first
  | (go_at_call 76; refine (Hcl.out _ ((H3.out.below ab0).more sM)).mono ?_; rintro e w1 ⟨A', cap', rfl, how, hb1⟩))
 go_ret
 exact ⟨A', cap', rfl, ownsRow_base_a how sM, ab0⟩
def TaskV.done (k : TaskV) : Bool := match k.nx with
 | .nilFunc => true
 | _ => false
theorem task_done (k : TaskV) (w : World) (hk : k.ok) : Calls Tryz.prog 41 #[(tkV k)] w (Ret (.bool k.done) w) := by
 try unfold tkV
 obtain ⟨c, nx, a, A, m, cp, l⟩ := k
 obtain ⟨_, h | h⟩ := hk
 ·obtain ⟨T, p, rfl⟩ := h
  exact done_no T p c a A m cp w
 ·simp only at h
  subst h
  exact done_yes c a A m cp w
def gotT (g : GS) : List UInt8 := rawT ⟨g.v, g.r, g.f⟩ ++ numsT [bitI g.k]
def taskT (k : TaskV) (s : Bool) : List UInt8 := [124] ++ numsT [bitI k.done, bitI s] ++ k.l.flatMap gotT
def keyT (V : WorldV) : List UInt8 := memoryT V.M.mem ++ [124] ++ linesT V.M ++ (V.ts.zip V.ss).flatMap (fun (p : TaskV × Bool) => taskT p.1 p.2)
def GS.okG (g : GS) : Prop := (W3.mk g.v g.r g.f).okW
def WorldV.okK (V : WorldV) : Prop := V.M.mem.okM ∧ V.M.okL ∧ V.ts.length = V.ss.length ∧ V.ts.length ≤ 100 ∧ (∀ k ∈ V.ts, k.m ≤ 100000 ∧ ∀ g ∈ k.l, g.okG) ∧ (keyT V).length ≤ 140737488355328
theorem bld_new (w : World) : Bld w.heap.size w.heap.size [] (w.alloc (.cells #[.pointer none, .slice none 0 0] 103)) := by
 refine ⟨.inl ⟨Nat.le_refl _, .slice none 0 0, heap_new _ _ rfl, ?_, by simp [Value.ownBlock]⟩, by simp, Nat.le_refl _⟩
 exact ⟨by simp [Lib.byteCells], .inl ⟨rfl, by simp [Lib.byteCells]⟩⟩
def SK (B0 B5 bs os : Nat) (sv : Value) (k : TaskV) (s : Bool) (w : World) : Prop := BoxC B5 (taskc k) w ∧ (w.cell? ⟨B0, 8, none⟩ = some sv ∧ B0 < w.heap.size) ∧ (w.cell? ⟨bs, os, none⟩ = some (.bool s) ∧ bs < w.heap.size)
theorem SK.below {B0 B5 bs os : Nat} {sv : Value} {k : TaskV} {s : Bool} {w w' : World} (h : SK B0 B5 bs os sv k s w) (hb : Below w.heap.size w w') : SK B0 B5 bs os sv k s w' :=
 ⟨h.1.below hb, ⟨(hb.cell (p := ⟨B0, 8, none⟩) h.2.1.2).trans h.2.1.1, Nat.lt_of_lt_of_le h.2.1.2 hb.size⟩, ⟨(hb.cell (p := ⟨bs, os, none⟩) h.2.2.2).trans h.2.2.1, Nat.lt_of_lt_of_le h.2.2.2 hb.size⟩⟩
theorem SK.drew {B0 B5 bs os : Nat} {sv : Value} {k : TaskV} {s : Bool} {w : World} (h : SK B0 B5 bs os sv k s w) : SK B0 B5 bs os sv k s w.drew := h.below (Below.drew (Below.refl _ _))
theorem box_obj {w : World} {b : Nat} {cs : Array Value} {t : TypeId} (h : w.heap[b]? = some (.cells cs t (0, 0))) : BoxC b cs.toList w :=
 ⟨fun j u hu => by simp [World.cell?, h]; simpa using hu, fun o => by simp [World.frozen?, h], (Array.getElem?_eq_some_iff.1 h).1⟩
theorem gots_length {k : TaskV} {w : World} (h : GotsR w k.A k.m k.cp (k.l.flatMap gotc)) : k.l.length = k.m := by
 have q := h.2.2.1
 have e : ∀ l : List GS, (l.flatMap gotc).length = l.length * 4 := by
  intro l
  induction l with
  | nil => rfl
  | cons x l ih => rw [List.flatMap_cons, List.length_append, ih, gotc_len, List.length_cons]; omega
 rw [e] at q
 omega
theorem ex_keyX (M : MachV) (tA : Option Addr) (tc : Nat) (ts : List TaskV) (sA : Option Addr) (sc : Nat) (ss : List Bool) (w : World) (hR : WorldV.R w ⟨M, tA, tc, ts, sA, sc, ss⟩) (htab : Tab w) (hg0 : 0 < w.heap.size) (hokM : M.mem.okM) (hokL : M.okL) (hts : ts.length = ss.length) (ht100 : ts.length ≤ 100) (hokT : ∀ k ∈ ts, k.m ≤ 100000 ∧ ∀ g ∈ k.l, g.okG) (hlen : (memoryT M.mem ++ [124] ++ linesT M ++ (ts.zip ss).flatMap (fun (p : TaskV × Bool) => taskT p.1 p.2)).length ≤ 140737488355328) :
  Calls Tryz.prog 15 #[.agg #[.slice (M).mem.pA (M).mem.hs.length (M).mem.pc, .slice (M).mem.vA (M).mem.vs.length (M).mem.vc, .slice (M).ln.fA (M).ln.first.length (M).ln.fc, .slice (M).ln.lA (M).ln.logs.length (M).ln.lc, .map (M).ln.asks, .slice (M).sA (M).steps.length (M).sc, .int .i64 (M).crashes, .slice tA ts.length tc, .slice sA ss.length sc]] w (Ret (.string ⟨(memoryT M.mem ++ [124] ++ linesT M ++ (ts.zip ss).flatMap (fun (p : TaskV × Bool) => taskT p.1 p.2)).toArray⟩) w) := by
 have hmem := fun l W (hB : Bld (w.heap.size + 1) (w.heap.size + 1) l W) hT (hW : Below (w.heap.size + 1) (w.alloc (.cells #[.slice (M).mem.pA (M).mem.hs.length (M).mem.pc, .slice (M).mem.vA (M).mem.vs.length (M).mem.vc, .slice (M).ln.fA (M).ln.first.length (M).ln.fc, .slice (M).ln.lA (M).ln.logs.length (M).ln.lc, .map (M).ln.asks, .slice (M).sA (M).steps.length (M).sc, .int .i64 (M).crashes, .slice tA ts.length tc, .slice sA ss.length sc] 40)) W) hl => ex_memory (w.heap.size + 1) (w.heap.size + 1) l M W hB oM hT (fun W2 hW2 => (hR.1.1.below ((Below.alloc (Below.refl _ _) (Nat.le_refl _) _).trans ((hW.trans hW2).mono oM)))) hokM hl
 have hlin := fun l W (hB : Bld (w.heap.size + 1) (w.heap.size + 1) l W) hT (hW : Below (w.heap.size + 1) (w.alloc (.cells #[.slice (M).mem.pA (M).mem.hs.length (M).mem.pc, .slice (M).mem.vA (M).mem.vs.length (M).mem.vc, .slice (M).ln.fA (M).ln.first.length (M).ln.fc, .slice (M).ln.lA (M).ln.logs.length (M).ln.lc, .map (M).ln.asks, .slice (M).sA (M).steps.length (M).sc, .int .i64 (M).crashes, .slice tA ts.length tc, .slice sA ss.length sc] 40)) W) hl => ex_lines (w.heap.size + 1) (w.heap.size + 1) l M W hB oM hT (fun W2 hW2 => ⟨hR.1.2.1.below ((Below.alloc (Below.refl _ _) (Nat.le_refl _) _).trans ((hW.trans hW2).mono oM)), by rw [show M.ln.logs.length = (M.ln.first.length + 7) / 8 by rw [hokL.2.2.2.1]; exact hokL.2.2.1]; exact hR.1.2.2.2.2.2.below ((Below.alloc (Below.refl _ _) (Nat.le_refl _) _).trans ((hW.trans hW2).mono oM))⟩) hokL hl
 have Hmem := hide hmem
 have Hlin := hide hlin
 have HR := hide hR
 have HT := hide htab
 have Hlen := hide hlen
 have HokT := hide hokT
 have Hts := hide hts
 clear hmem hlin hR htab hlen hokM hokL hokT hts
 go_enter Tryz.func15, Tryz.ntmps15
 go_upto_region 2 with fail
 obtain ⟨w1, hw1⟩ : ∃ W : World, W = (w.alloc (.cells #[.slice (M).mem.pA (M).mem.hs.length (M).mem.pc, .slice (M).mem.vA (M).mem.vs.length (M).mem.vc, .slice (M).ln.fA (M).ln.first.length (M).ln.fc, .slice (M).ln.lA (M).ln.logs.length (M).ln.lc, .map (M).ln.asks, .slice (M).sA (M).steps.length (M).sc, .int .i64 (M).crashes, .slice tA ts.length tc, .slice sA ss.length sc] 40)).alloc (.cells #[.pointer none, .slice none 0 0] 103) := ⟨_, rfl⟩
 have hBn : Bld (w.heap.size + 1) (w.heap.size + 1) [] w1 := by
  rw [hw1]
  have q := bld_new (w.alloc (.cells #[.slice (M).mem.pA (M).mem.hs.length (M).mem.pc, .slice (M).mem.vA (M).mem.vs.length (M).mem.vc, .slice (M).ln.fA (M).ln.first.length (M).ln.fc, .slice (M).ln.lA (M).ln.logs.length (M).ln.lc, .map (M).ln.asks, .slice (M).sA (M).steps.length (M).sc, .int .i64 (M).crashes, .slice tA ts.length tc, .slice sA ss.length sc] 40))
  rw [show (w.alloc (.cells #[.slice (M).mem.pA (M).mem.hs.length (M).mem.pc, .slice (M).mem.vA (M).mem.vs.length (M).mem.vc, .slice (M).ln.fA (M).ln.first.length (M).ln.fc, .slice (M).ln.lA (M).ln.logs.length (M).ln.lc, .map (M).ln.asks, .slice (M).sA (M).steps.length (M).sc, .int .i64 (M).crashes, .slice tA ts.length tc, .slice sA ss.length sc] 40)).heap.size = w.heap.size + 1 by simp] at q
  exact q
 have hBw : Below (w.heap.size + 1) (w.alloc (.cells #[.slice (M).mem.pA (M).mem.hs.length (M).mem.pc, .slice (M).mem.vA (M).mem.vs.length (M).mem.vc, .slice (M).ln.fA (M).ln.first.length (M).ln.fc, .slice (M).ln.lA (M).ln.logs.length (M).ln.lc, .map (M).ln.asks, .slice (M).sA (M).steps.length (M).sc, .int .i64 (M).crashes, .slice tA ts.length tc, .slice sA ss.length sc] 40)) w1 := by rw [hw1]; exact Below.alloc (Below.refl _ _) sM _
 have hBww : Below w.heap.size w w1 := by rw [hw1]; exact ab0
 have hob : w1.heap[w.heap.size]? = some (.cells #[.slice (M).mem.pA (M).mem.hs.length (M).mem.pc, .slice (M).mem.vA (M).mem.vs.length (M).mem.vc, .slice (M).ln.fA (M).ln.first.length (M).ln.fc, .slice (M).ln.lA (M).ln.logs.length (M).ln.lc, .map (M).ln.asks, .slice (M).sA (M).steps.length (M).sc, .int .i64 (M).crashes, .slice tA ts.length tc, .slice sA ss.length sc] 40 (0, 0)) := (hBw.block w.heap.size oM).trans (heap_new _ _ rfl)
 have hs1 : w1.heap.size = w.heap.size + 1 + 1 := by rw [hw1]; simp
 have a0 : w1.cell? ⟨w.heap.size, 0, none⟩ = some (.slice M.mem.pA M.mem.hs.length M.mem.pc) := (by simp [World.cell?, hob])
 have a1 : w1.cell? ⟨w.heap.size, 1, none⟩ = some (.slice M.mem.vA M.mem.vs.length M.mem.vc) := (by simp [World.cell?, hob])
 have a2 : w1.cell? ⟨w.heap.size, 2, none⟩ = some (.slice M.ln.fA M.ln.first.length M.ln.fc) := (by simp [World.cell?, hob])
 have a3 : w1.cell? ⟨w.heap.size, 3, none⟩ = some (.slice M.ln.lA M.ln.logs.length M.ln.lc) := (by simp [World.cell?, hob])
 have a4 : w1.cell? ⟨w.heap.size, 4, none⟩ = some (.map M.ln.asks) := (by simp [World.cell?, hob])
 have a5 : w1.cell? ⟨w.heap.size, 5, none⟩ = some (.slice M.sA M.steps.length M.sc) := (by simp [World.cell?, hob])
 have a6 : w1.cell? ⟨w.heap.size, 6, none⟩ = some (.int .i64 M.crashes) := (by simp [World.cell?, hob])
 have a7 : w1.cell? ⟨w.heap.size, 7, none⟩ = some (.slice tA ts.length tc) := (by simp [World.cell?, hob])
 have a8 : w1.cell? ⟨w.heap.size, 8, none⟩ = some (.slice sA ss.length sc) := (by simp [World.cell?, hob])
 have HBn := hide hBn
 have HBw := hide hBw
 have HBww := hide hBww
 have Hob := hide hob
 have HT1 := hide (HT.out.below hBww hg0)
 rw [← hw1]
 clear hw1 hBn hBw hBww hob
 have hl0 : (memoryT M.mem).length + 1 + (linesT M).length ≤ 140737488355328 := by
  have q := Hlen.out
  simp only [List.length_append, List.length_cons, List.length_nil] at q
  omega
 have hgN : 0 < w.heap.size + 1 := by omega
 have Hl0 := hide hl0
 clear hl0
 go_upto_region 5 with (first
  | (go_at_call 36; refine (Hmem.out [] _ HBn.out HT1.out HBw.out (by have := Hl0.out; rw [List.nil_append]; omega)).mono ?_; rintro e w2 ⟨rfl, hB2, hE2⟩; rw [List.nil_append] at hB2; have HB2 := hide hB2; have HE2 := hide hE2; have hob2 := (hE2.1.block w.heap.size oM).trans Hob.out; have b0 : w2.cell? ⟨w.heap.size, 0, none⟩ = some (.slice M.mem.pA M.mem.hs.length M.mem.pc) := (by simp [World.cell?, hob2]); have b1 : w2.cell? ⟨w.heap.size, 1, none⟩ = some (.slice M.mem.vA M.mem.vs.length M.mem.vc) := (by simp [World.cell?, hob2]); have b2 : w2.cell? ⟨w.heap.size, 2, none⟩ = some (.slice M.ln.fA M.ln.first.length M.ln.fc) := (by simp [World.cell?, hob2]); have b3 : w2.cell? ⟨w.heap.size, 3, none⟩ = some (.slice M.ln.lA M.ln.logs.length M.ln.lc) := (by simp [World.cell?, hob2]); have b4 : w2.cell? ⟨w.heap.size, 4, none⟩ = some (.map M.ln.asks) := (by simp [World.cell?, hob2]); have b5 : w2.cell? ⟨w.heap.size, 5, none⟩ = some (.slice M.sA M.steps.length M.sc) := (by simp [World.cell?, hob2]); have b6 : w2.cell? ⟨w.heap.size, 6, none⟩ = some (.int .i64 M.crashes) := (by simp [World.cell?, hob2]); have b7 : w2.cell? ⟨w.heap.size, 7, none⟩ = some (.slice tA ts.length tc) := (by simp [World.cell?, hob2]); have b8 : w2.cell? ⟨w.heap.size, 8, none⟩ = some (.slice sA ss.length sc) := (by simp [World.cell?, hob2]); have Hob2 := hide hob2; have HT2 := hide (HT1.out.below hE2.1 hgN); have hz2 : w.heap.size < w2.heap.size := (by have := hE2.size; omega); clear hB2 hE2 hob2)
  | (go_at_call 37; refine (wr_byte (w.heap.size + 1) (w.heap.size + 1) _ 124 124 _ HB2.out (by rfl) (by have := Hl0.out; omega)).mono ?_; rintro e w3 ⟨rfl, hB3, hE3⟩; have HB3 := hide hB3; have HE3 := hide (HE2.out.trans hE3); have hob3 := (hE3.1.block w.heap.size oM).trans Hob2.out; have c0 : w3.cell? ⟨w.heap.size, 0, none⟩ = some (.slice M.mem.pA M.mem.hs.length M.mem.pc) := (by simp [World.cell?, hob3]); have c1 : w3.cell? ⟨w.heap.size, 1, none⟩ = some (.slice M.mem.vA M.mem.vs.length M.mem.vc) := (by simp [World.cell?, hob3]); have c2 : w3.cell? ⟨w.heap.size, 2, none⟩ = some (.slice M.ln.fA M.ln.first.length M.ln.fc) := (by simp [World.cell?, hob3]); have c3 : w3.cell? ⟨w.heap.size, 3, none⟩ = some (.slice M.ln.lA M.ln.logs.length M.ln.lc) := (by simp [World.cell?, hob3]); have c4 : w3.cell? ⟨w.heap.size, 4, none⟩ = some (.map M.ln.asks) := (by simp [World.cell?, hob3]); have c5 : w3.cell? ⟨w.heap.size, 5, none⟩ = some (.slice M.sA M.steps.length M.sc) := (by simp [World.cell?, hob3]); have c6 : w3.cell? ⟨w.heap.size, 6, none⟩ = some (.int .i64 M.crashes) := (by simp [World.cell?, hob3]); have c7 : w3.cell? ⟨w.heap.size, 7, none⟩ = some (.slice tA ts.length tc) := (by simp [World.cell?, hob3]); have c8 : w3.cell? ⟨w.heap.size, 8, none⟩ = some (.slice sA ss.length sc) := (by simp [World.cell?, hob3]); have Hob3 := hide hob3; have HT3 := hide (HT2.out.below hE3.1 hgN); have hz3 : w.heap.size < w3.heap.size := (by have := hE3.size; omega); clear hB3 hE3 hob3)
  | (go_at_call 38; refine (Hlin.out _ _ HB3.out HT3.out (HBw.out.trans HE3.out.1) (by have := Hl0.out; simp only [List.length_append, List.length_cons, List.length_nil]; omega)).mono ?_; rintro e w4 ⟨rfl, hB4, hE4⟩; have HB4 := hide hB4; have HE4 := hide (HE3.out.trans hE4); have hob4 := (hE4.1.block w.heap.size oM).trans Hob3.out; have d7 : w4.cell? ⟨w.heap.size, 7, none⟩ = some (.slice tA ts.length tc) := (by simp [World.cell?, hob4]); have d8 : w4.cell? ⟨w.heap.size, 8, none⟩ = some (.slice sA ss.length sc) := (by simp [World.cell?, hob4]); have Hob4 := hide hob4; have HT4 := hide (HT3.out.below hE4.1 hgN); have hz4 : w.heap.size < w4.heap.size := (by have := hE4.size; omega); clear hB4 hE4 hob4))
 go_wp2_with fail
 have HBw4 := hide (HBw.out.trans HE4.out.1)
 clear a0 a1 a2 a3 a4 a5 a6 a7 a8 b0 b1 b2 b3 b4 b5 b6 b7 b8 c0 c1 c2 c3 c4 c5 c6 c7 c8 d7 d8
 go_loopw [18] (fun i wr => ∃ k : Nat, i = .int .i64 k ∧ k ≤ ts.length ∧ Hid (Bld (w.heap.size + 1) (w.heap.size + 1) (memoryT M.mem ++ [124] ++ linesT M ++ ((ts.zip ss).take k).flatMap (fun (p : TaskV × Bool) => taskT p.1 p.2)) wr) ∧ Hid (Ext (w.heap.size + 1) (w.heap.size + 1) w4 wr)) (fun i _ => ts.length - (intOf i).toNat)
 case atStart => exact ⟨0, rfl, by omega, hide (by simpa using HB4.out), hide (Ext.refl _ _ _)⟩
 case round =>
  obtain ⟨k, rfl, hk, HB, HE⟩ := hrel
  have hobr := (HE.out.1.block w.heap.size oM).trans Hob4.out
  have hzr : w.heap.size < wr.heap.size := by have := HE.out.size; omega
  have HTr := hide (HT4.out.below HE.out.1 hgN)
  have HBwr := hide (HBw4.out.trans HE.out.1)
  by_cases hlt : (k : Int) < ts.length
  ·have hk1 : k < ts.length := by omega
   have hkb : (k : Int) + 1 ≤ 100 := by omega
   obtain ⟨t, htk⟩ : ∃ t, ts[k]? = some t := ⟨_, List.getElem?_eq_getElem hk1⟩
   obtain ⟨sb, hsk⟩ : ∃ sb, ss[k]? = some sb := ⟨_, List.getElem?_eq_getElem (by rw [← Hts.out]; exact hk1)⟩
   have hzip : (ts.zip ss)[k]? = some (t, sb) := by rw [List.getElem?_zip_eq_some]; exact ⟨htk, hsk⟩
   have hRw := HR.out
   obtain ⟨bl, of, e1, hbl, hcl⟩ := Rd.elem hRw.2.1.2.2.1 taskc_len hk1 htk
   obtain ⟨bs, os, e2, hbs, hcs⟩ := Rd.one hRw.2.2.2.2 (by rw [← Hts.out]; exact hk1) hsk
   simp only at e1 e2
   subst e1 e2
   have hBw0 : Below w.heap.size w wr := (Below.alloc (Below.refl _ _) (Nat.le_refl _) _).trans (HBwr.out.mono oM)
   obtain ⟨htg0, htok⟩ := hRw.2.1.2.2.2 t (List.mem_of_getElem? htk)
   have htg := fun W (hW : Below w.heap.size w W) => htg0.below hW
   obtain ⟨htm, hgk⟩ := HokT.out t (List.mem_of_getElem? htk)
   have hlm := gots_length htg0
   have t0 : wr.cell? ⟨bl, of + k * 11, none⟩ = some (t.c) := (hBw0.cell (p := ⟨bl, of + k * 11, none⟩) hbl).trans (hcl 0 _ rfl)
   have t1 : wr.cell? ⟨bl, of + k * 11 + 1, none⟩ = some (t.nx) := (hBw0.cell (p := ⟨bl, of + k * 11 + 1, none⟩) hbl).trans (hcl 1 _ rfl)
   have t2 : wr.cell? ⟨bl, of + k * 11 + 2, none⟩ = some (.int .i64 t.a.o) := (hBw0.cell (p := ⟨bl, of + k * 11 + 2, none⟩) hbl).trans (hcl 2 _ rfl)
   have t3 : wr.cell? ⟨bl, of + k * 11 + 3, none⟩ = some (.int .i64 t.a.l) := (hBw0.cell (p := ⟨bl, of + k * 11 + 3, none⟩) hbl).trans (hcl 3 _ rfl)
   have t4 : wr.cell? ⟨bl, of + k * 11 + 4, none⟩ = some (.int .i64 t.a.v) := (hBw0.cell (p := ⟨bl, of + k * 11 + 4, none⟩) hbl).trans (hcl 4 _ rfl)
   have t5 : wr.cell? ⟨bl, of + k * 11 + 5, none⟩ = some (.int .u32 t.a.r) := (hBw0.cell (p := ⟨bl, of + k * 11 + 5, none⟩) hbl).trans (hcl 5 _ rfl)
   have t6 : wr.cell? ⟨bl, of + k * 11 + 6, none⟩ = some (.int .u32 t.a.f) := (hBw0.cell (p := ⟨bl, of + k * 11 + 6, none⟩) hbl).trans (hcl 6 _ rfl)
   have t7 : wr.cell? ⟨bl, of + k * 11 + 7, none⟩ = some (.int .i64 t.a.v2) := (hBw0.cell (p := ⟨bl, of + k * 11 + 7, none⟩) hbl).trans (hcl 7 _ rfl)
   have t8 : wr.cell? ⟨bl, of + k * 11 + 8, none⟩ = some (.int .u32 t.a.r2) := (hBw0.cell (p := ⟨bl, of + k * 11 + 8, none⟩) hbl).trans (hcl 8 _ rfl)
   have t9 : wr.cell? ⟨bl, of + k * 11 + 9, none⟩ = some (.int .u32 t.a.f2) := (hBw0.cell (p := ⟨bl, of + k * 11 + 9, none⟩) hbl).trans (hcl 9 _ rfl)
   have t10 : wr.cell? ⟨bl, of + k * 11 + 10, none⟩ = some (.slice t.A t.m t.cp) := (hBw0.cell (p := ⟨bl, of + k * 11 + 10, none⟩) hbl).trans (hcl 10 _ rfl)
   have cb : wr.cell? ⟨bs, os + k, none⟩ = some (.bool sb) := (hBw0.cell (p := ⟨bs, os + k, none⟩) hbs).trans hcs
   have d8 : wr.cell? ⟨w.heap.size, 8, none⟩ = some (.slice (some ⟨bs, os, none⟩) ss.length sc) := by simp [World.cell?, hobr]
   obtain ⟨hsto1, hsto2⟩ := htok.sto
   unfold StoV at hsto1 hsto2
   have hbr := HB.out.lt
   have hNr := HB.out.2.1
   have hlT : (memoryT M.mem ++ [124] ++ linesT M ++ ((ts.zip ss).take k).flatMap (fun (p : TaskV × Bool) => taskT p.1 p.2)).length + 1 + (numsT [bitI t.done, bitI sb]).length + (t.l.flatMap gotT).length ≤ 140737488355328 := by
    have q1 := flat_le (g := fun (p : TaskV × Bool) => taskT p.1 p.2) (l := ts.zip ss) (k + 1)
    rw [flat_take hzip] at q1
    have q2 := Hlen.out
    have q3 : (taskT t sb).length = 1 + (numsT [bitI t.done, bitI sb]).length + (t.l.flatMap gotT).length := by unfold taskT; simp only [List.length_append, List.length_cons, List.length_nil]
    simp only [List.length_append, List.length_cons, List.length_nil] at q1 q2 q3 ⊢
    omega
   have hnum : ∀ W bk, Bld (w.heap.size + 1) (w.heap.size + 1) ((memoryT M.mem ++ [124] ++ linesT M ++ ((ts.zip ss).take k).flatMap (fun (p : TaskV × Bool) => taskT p.1 p.2)) ++ [124]) W → Tab W → bk ≠ (w.heap.size + 1) → W.heap[bk]? = some (.cells #[.int .i64 (bitI t.done), .int .i64 (bitI sb)] 2 (0, 0)) → Calls Tryz.prog 39 #[.pointer (some ⟨(w.heap.size + 1), 0, none⟩), .slice (some ⟨bk, 0, none⟩) 2 2] W fun e w' => e = .returned (.tuple #[]) ∧ Bld (w.heap.size + 1) (w.heap.size + 1) ((memoryT M.mem ++ [124] ++ linesT M ++ ((ts.zip ss).take k).flatMap (fun (p : TaskV × Bool) => taskT p.1 p.2)) ++ [124] ++ numsT [bitI t.done, bitI sb]) w' ∧ Ext (w.heap.size + 1) (w.heap.size + 1) W w' := by
    intro W bk hB hT hne hbk
    refine ex_numbers (w.heap.size + 1) (w.heap.size + 1) _ [bitI t.done, bitI sb] bk W hB hgN hbk hne hT (by
     intro y hy
     simp only [List.mem_cons, List.not_mem_nil, or_false] at hy
     rcases hy with rfl | rfl
     ·exact bitI_in _
     ·exact bitI_in _) ?_ sM
    simp only [List.length_append, List.length_cons, List.length_nil] at hlT ⊢
    omega
   have Hnum := hide hnum
   have HlT := hide hlT
   have Hzip := hide hzip
   have Htg := hide htg
   have Htok := hide htok
   have Hgk := hide hgk
   have Hlm := hide hlm
   have HBw0 := hide hBw0
   have j0 : (0 : Int) ≤ (k : Int) := by omega
   have hss : (k : Int) < (ss.length : Int) := by have := Hts.out; omega
   have hss2 : decide ((k : Int) < (ss.length : Int)) = true := by simpa using hss
   clear hRw hcl htg htg0 htok hgk hlm hcs htk hsk hzip hobr hBw0 hnum hlT
   go_upto_region 9 with (first
    | (go_at_call 37; refine (wr_byte (w.heap.size + 1) (w.heap.size + 1) (memoryT M.mem ++ [124] ++ linesT M ++ ((ts.zip ss).take k).flatMap (fun (p : TaskV × Bool) => taskT p.1 p.2)) 124 124 _ (HB.out.below (Below.alloc (Below.refl _ _) (Nat.le_refl _) _)) (by rfl) (by have := HlT.out; omega)).mono ?_; rintro e w5 ⟨rfl, hB5, hE5⟩; have HB5 := hide hB5; have HEa5 := hide hE5; have HE5 := hide ((Ext.of (N := (w.heap.size + 1)) (b := (w.heap.size + 1)) (Below.alloc (Below.refl wr.heap.size wr) (Nat.le_refl _) _) hNr).trans hE5); clear hB5 hE5))
   have hob5 := HEa5.out.obj (k := wr.heap.size) (heap_new _ _ rfl) oM dM
   have hz5 : wr.heap.size < w5.heap.size := by have := HEa5.out.size; simp at this; omega
   have HS : SK w.heap.size wr.heap.size bs (os + k) (.slice (some ⟨bs, os, none⟩) ss.length sc) t sb w5 := ⟨box_obj hob5, ⟨(HE5.out.1.cell (p := ⟨w.heap.size, 8, none⟩) (by show w.heap.size < w.heap.size + 1; omega)).trans d8, by omega⟩, ⟨(HE5.out.1.cell (p := ⟨bs, os + k, none⟩) (by show bs < w.heap.size + 1; omega)).trans cb, by omega⟩⟩
   have rx0 : ∀ w', SK w.heap.size wr.heap.size bs (os + k) (.slice (some ⟨bs, os, none⟩) ss.length sc) t sb w' → w'.cell? ⟨wr.heap.size, 0, none⟩ = some (t.c) := fun w' h => h.1.1 0 _ rfl
   have rx1 : ∀ w', SK w.heap.size wr.heap.size bs (os + k) (.slice (some ⟨bs, os, none⟩) ss.length sc) t sb w' → w'.cell? ⟨wr.heap.size, 1, none⟩ = some (t.nx) := fun w' h => h.1.1 1 _ rfl
   have rx2 : ∀ w', SK w.heap.size wr.heap.size bs (os + k) (.slice (some ⟨bs, os, none⟩) ss.length sc) t sb w' → w'.cell? ⟨wr.heap.size, 2, none⟩ = some (.int .i64 t.a.o) := fun w' h => h.1.1 2 _ rfl
   have rx3 : ∀ w', SK w.heap.size wr.heap.size bs (os + k) (.slice (some ⟨bs, os, none⟩) ss.length sc) t sb w' → w'.cell? ⟨wr.heap.size, 3, none⟩ = some (.int .i64 t.a.l) := fun w' h => h.1.1 3 _ rfl
   have rx4 : ∀ w', SK w.heap.size wr.heap.size bs (os + k) (.slice (some ⟨bs, os, none⟩) ss.length sc) t sb w' → w'.cell? ⟨wr.heap.size, 4, none⟩ = some (.int .i64 t.a.v) := fun w' h => h.1.1 4 _ rfl
   have rx5 : ∀ w', SK w.heap.size wr.heap.size bs (os + k) (.slice (some ⟨bs, os, none⟩) ss.length sc) t sb w' → w'.cell? ⟨wr.heap.size, 5, none⟩ = some (.int .u32 t.a.r) := fun w' h => h.1.1 5 _ rfl
   have rx6 : ∀ w', SK w.heap.size wr.heap.size bs (os + k) (.slice (some ⟨bs, os, none⟩) ss.length sc) t sb w' → w'.cell? ⟨wr.heap.size, 6, none⟩ = some (.int .u32 t.a.f) := fun w' h => h.1.1 6 _ rfl
   have rx7 : ∀ w', SK w.heap.size wr.heap.size bs (os + k) (.slice (some ⟨bs, os, none⟩) ss.length sc) t sb w' → w'.cell? ⟨wr.heap.size, 7, none⟩ = some (.int .i64 t.a.v2) := fun w' h => h.1.1 7 _ rfl
   have rx8 : ∀ w', SK w.heap.size wr.heap.size bs (os + k) (.slice (some ⟨bs, os, none⟩) ss.length sc) t sb w' → w'.cell? ⟨wr.heap.size, 8, none⟩ = some (.int .u32 t.a.r2) := fun w' h => h.1.1 8 _ rfl
   have rx9 : ∀ w', SK w.heap.size wr.heap.size bs (os + k) (.slice (some ⟨bs, os, none⟩) ss.length sc) t sb w' → w'.cell? ⟨wr.heap.size, 9, none⟩ = some (.int .u32 t.a.f2) := fun w' h => h.1.1 9 _ rfl
   have rx10 : ∀ w', SK w.heap.size wr.heap.size bs (os + k) (.slice (some ⟨bs, os, none⟩) ss.length sc) t sb w' → w'.cell? ⟨wr.heap.size, 10, none⟩ = some (.slice t.A t.m t.cp) := fun w' h => h.1.1 10 _ rfl
   have ry : ∀ w', SK w.heap.size wr.heap.size bs (os + k) (.slice (some ⟨bs, os, none⟩) ss.length sc) t sb w' → w'.cell? ⟨w.heap.size, 8, none⟩ = some (.slice (some ⟨bs, os, none⟩) ss.length sc) := fun w' h => h.2.1.1
   have rz : ∀ w', SK w.heap.size wr.heap.size bs (os + k) (.slice (some ⟨bs, os, none⟩) ss.length sc) t sb w' → w'.cell? ⟨bs, os + k, none⟩ = some (.bool sb) := fun w' h => h.2.2.1
   have Hob5 := hide hob5
   have HTm := hide (HTr.out.below HE5.out.1 hgN)
   clear t0 t1 t2 t3 t4 t5 t6 t7 t8 t9 t10 d8 cb hob5
   refine wp_region_held_drew (S := (fun w' => SK w.heap.size wr.heap.size bs (os + k) (.slice (some ⟨bs, os, none⟩) ss.length sc) t sb w')) kR ab8 (fun hHeld => ?_)
   refine tq1 0 ?_
   refine tq1 3 ?_
   refine tq1 4 ?_
   refine tq1 5 ?_
   refine tq1 6 ?_
   refine tq1 7 ?_
   refine wE 1 fun K hK => ?_
   go_simp
   (go_at_call 41; refine (task_done t _ Htok.out).mono ?_; rintro e w7 ⟨rfl, hb7'⟩; have hb7 : Below _ _ w7 := (by first | with_reducible exact noDrew hb7' | exact hb7'); clear hb7'; have hs7 := hb7.size)
   go_wp2_with fail
   refine oK hK ab8 fun hHeld => ?_
   clear hK K
   refine wE 2 fun K hK => ?_
   go_simp
   (go_at_call 40; refine (bit_any _ _).mono ?_; rintro e w8 ⟨rfl, rfl⟩)
   go_wp2_with fail
   refine oK hK ab8 fun hHeld => ?_
   clear hK K
   refine tq1 8 ?_
   first | (refine tq1 9 ?_) | (refine wpAnyH_take (i := 9) (v := undef) (oi := ⟨some 33, .fieldAddr 40 (.tmp 1) 2, 0, "explore.go:130", #[⟨8, .guard⟩], some (8, true)⟩) (by rfl) kR kR kR (fun _ _ _ h => h) (Or.inr ⟨by rfl, rfl⟩) aM ?_) | fail "region 9 op 9"
   (try simp only [Act.put, pS])
   first | (refine tq1 10 ?_) | (refine wpAnyH_take (i := 10) (v := undef) (oi := ⟨some 34, .load 38 (.tmp 33), 38, "explore.go:130", #[⟨9, .data⟩, ⟨8, .guard⟩], some (8, true)⟩) (by rfl) kR kR kR (fun _ _ _ h => h) (Or.inr ⟨by rfl, rfl⟩) aM ?_) | fail "region 9 op 10"
   (try simp only [Act.put, pS])
   first | (refine tq1 11 ?_) | (refine wpAnyH_take (i := 11) (v := undef) (oi := ⟨some 35, .move (.tmp 4), 3, "explore.go:130", #[⟨8, .guard⟩], some (8, true)⟩) (by rfl) kR kR kR (fun _ _ _ h => h) (Or.inr ⟨by rfl, rfl⟩) aM ?_) | fail "region 9 op 11"
   (try simp only [Act.put, pS])
   first | (refine tq1 12 ?_) | (refine wpAnyH_take (i := 12) (v := undef) (oi := ⟨some 36, .indexAddr 38 (.tmp 34) (.tmp 35), 0, "explore.go:130", #[⟨10, .data⟩, ⟨11, .data⟩, ⟨8, .guard⟩], some (8, true)⟩) (by rfl) kR kR kR (fun _ _ _ h => h) (Or.inr ⟨by rfl, rfl⟩) aM ?_) | fail "region 9 op 12"
   (try simp only [Act.put, pS])
   first | (refine tq1 13 ?_) | (refine wpAnyH_take (i := 13) (v := undef) (oi := ⟨some 37, .load 4 (.tmp 36), 4, "explore.go:130", #[⟨12, .data⟩, ⟨8, .guard⟩], some (8, true)⟩) (by rfl) kR kR kR (fun _ _ _ h => h) (Or.inr ⟨by rfl, rfl⟩) aM ?_) | fail "region 9 op 13"
   (try simp only [Act.put, pS])
   refine tq1 14 ?_
   refine wE 15 fun K hK => ?_
   go_simp
   (go_at_call 40; refine (bit_any _ _).mono ?_; rintro e w8 ⟨rfl, rfl⟩)
   go_wp2_with fail
   refine oK hK ab8 fun hHeld => ?_
   clear hK K
   refine wE 16 fun K hK => ?_
   go_simp
   go_wp2_with fail
   refine oK hK ab8 fun hHeld => ?_
   clear hK K
   refine wE 17 fun K hK => ?_
   go_simp
   (go_at_call 39; refine (Hnum.out _ w7.heap.size ((HB5.out.below hb7).below (Below.alloc (Below.refl _ _) (Nat.le_refl _) _)) ((HTm.out.below hb7 oM).below (N := w7.heap.size) (Below.alloc (Below.refl _ _) (Nat.le_refl _) _) oM) oM (heap_new _ _ rfl)).mono ?_; rintro e w9 ⟨rfl, hB9, hE9⟩; have HB9 := hide hB9; have hE79 := (Ext.of (N := (w.heap.size + 1)) (b := (w.heap.size + 1)) (hb7.trans ((Below.alloc (Below.refl _ _) (Nat.le_refl _) _).mono hs7)) oM).trans hE9; have HE9 := hide (HE5.out.trans hE79); have hob9 := hE79.obj Hob5.out oM dM; have HS9 : SK w.heap.size wr.heap.size bs (os + k) (.slice (some ⟨bs, os, none⟩) ss.length sc) t sb w9 := ⟨box_obj hob9, ⟨(hE79.1.cell (p := ⟨w.heap.size, 8, none⟩) (by show w.heap.size < w.heap.size + 1; omega)).trans HS.2.1.1, by have := hE79.size; omega⟩, ⟨(hE79.1.cell (p := ⟨bs, os + k, none⟩) (by show bs < w.heap.size + 1; omega)).trans HS.2.2.1, by have := hE79.size; omega⟩⟩; have Hob9 := hide hob9; clear hB9 hE9 hob9)
   go_wp2_with fail
   refine oK hK ab8 fun hHeld => ?_
   clear hK K
   refine wD ?_
   all_goals
    have y0 := rx0 _ HS9
    have y1 := rx1 _ HS9
    have y2 := rx2 _ HS9
    have y3 := rx3 _ HS9
    have y4 := rx4 _ HS9
    have y5 := rx5 _ HS9
    have y6 := rx6 _ HS9
    have y7 := rx7 _ HS9
    have y8 := rx8 _ HS9
    have y9 := rx9 _ HS9
    have y10 := rx10 _ HS9
    have hz9 : wr.heap.size < w9.heap.size := (Array.getElem?_eq_some_iff.1 Hob9.out).1
    have hN9 := HB9.out.2.1
    have HB09 := hide (HBw0.out.trans (HE9.out.1.mono oM))
    have hgots := task_gots t w9 (Htg.out w9 HB09.out) oM
    have Hgots := hide hgots
    clear rx0 rx1 rx2 rx3 rx4 rx5 rx6 rx7 rx8 rx9 rx10 ry rz HS hgots
    go_wp2_with (first
     | (go_at_call 35; refine Hgots.out.mono ?_; rintro e w10 ⟨A', cap', rfl, how, hb10⟩; have How := hide how; have Hb10 := hide hb10; have hs10 := hb10.size; clear how hb10))
    clear y0 y1 y2 y3 y4 y5 y6 y7 y8 y9 y10
    have HB10 := hide (HB9.out.below Hb10.out)
    have HE10 := hide (HE9.out.trans (Ext.of Hb10.out hN9))
    have hlt10 : (w.heap.size + 1) < w9.heap.size := HB9.out.lt
    go_loopw [45] (fun i wq => ∃ j : Nat, i = .int .i64 j ∧ j ≤ t.m ∧ Hid (Bld (w.heap.size + 1) (w.heap.size + 1) ((memoryT M.mem ++ [124] ++ linesT M ++ ((ts.zip ss).take k).flatMap (fun (p : TaskV × Bool) => taskT p.1 p.2)) ++ [124] ++ numsT [bitI t.done, bitI sb] ++ (t.l.take j).flatMap gotT) wq) ∧ Hid (Ext (w.heap.size + 1) (w.heap.size + 1) w10 wq)) (fun i _ => t.m - (intOf i).toNat)
    case atStart => exact ⟨0, rfl, by omega, hide (by simpa using HB10.out), hide (Ext.refl _ _ _)⟩
    case round =>
     obtain ⟨j, rfl, hj, HBq, HEq⟩ := hrel
     by_cases hltj : (j : Int) < t.m
     ·have hj1 : j < t.m := by omega
      obtain ⟨g, hgj⟩ : ∃ g, t.l[j]? = some g := ⟨_, List.getElem?_eq_getElem (by rw [Hlm.out]; exact hj1)⟩
      obtain ⟨gA, cp2, e, _, hgA, hrd⟩ := own_some (HEq.out.own How.out dM hlt10) oM
      injection e with e1 e2 e3
      subst e1 e3
      clear e2
      obtain ⟨b', o', e', hb', hc'⟩ := Rd.elem hrd gotc_len hj1 hgj
      injection e' with e'
      injection e' with e4 e5
      subst e4 e5
      have x0 : wr.cell? ⟨gA, 0 + j * 4, none⟩ = some (.int .i64 g.v) := hc' 0 _ rfl
      have x1 := hc' 1 _ rfl
      have x2 := hc' 2 _ rfl
      have x3 := hc' 3 _ rfl
      rw [Nat.zero_add] at x0 x1 x2 x3
      have hgo := Hgk.out g (List.mem_of_getElem? hgj)
      have hbq := HBq.out.lt
      have hNq := HBq.out.2.1
      have HTq := hide ((HTr.out.below HE10.out.1 hgN).below HEq.out.1 hgN)
      have hlG : ((memoryT M.mem ++ [124] ++ linesT M ++ ((ts.zip ss).take k).flatMap (fun (p : TaskV × Bool) => taskT p.1 p.2)) ++ [124] ++ numsT [bitI t.done, bitI sb] ++ (t.l.take j).flatMap gotT).length + (rawT ⟨g.v, g.r, g.f⟩).length + (numsT [bitI g.k]).length ≤ 140737488355328 := by
       have q1 := flat_le (g := gotT) (l := t.l) (j + 1)
       rw [flat_take hgj] at q1
       have q2 := HlT.out
       have q3 : (gotT g).length = (rawT ⟨g.v, g.r, g.f⟩).length + (numsT [bitI g.k]).length := by unfold gotT; rw [List.length_append]
       simp only [List.length_append, List.length_cons, List.length_nil] at q1 q2 ⊢
       omega
      have hraw := fun W hB hT => ex_raw (w.heap.size + 1) (w.heap.size + 1) ((memoryT M.mem ++ [124] ++ linesT M ++ ((ts.zip ss).take k).flatMap (fun (p : TaskV × Bool) => taskT p.1 p.2)) ++ [124] ++ numsT [bitI t.done, bitI sb] ++ (t.l.take j).flatMap gotT) ⟨g.v, g.r, g.f⟩ W hB hgN hT hgo (by rw [List.length_append]; omega)
      have hnum2 : ∀ W bk, Bld (w.heap.size + 1) (w.heap.size + 1) ((memoryT M.mem ++ [124] ++ linesT M ++ ((ts.zip ss).take k).flatMap (fun (p : TaskV × Bool) => taskT p.1 p.2)) ++ [124] ++ numsT [bitI t.done, bitI sb] ++ (t.l.take j).flatMap gotT ++ rawT ⟨g.v, g.r, g.f⟩) W → Tab W → bk ≠ (w.heap.size + 1) → W.heap[bk]? = some (.cells #[.int .i64 (bitI g.k)] 2 (0, 0)) → Calls Tryz.prog 39 #[.pointer (some ⟨(w.heap.size + 1), 0, none⟩), .slice (some ⟨bk, 0, none⟩) 1 1] W fun e w' => e = .returned (.tuple #[]) ∧ Bld (w.heap.size + 1) (w.heap.size + 1) ((memoryT M.mem ++ [124] ++ linesT M ++ ((ts.zip ss).take k).flatMap (fun (p : TaskV × Bool) => taskT p.1 p.2)) ++ [124] ++ numsT [bitI t.done, bitI sb] ++ (t.l.take j).flatMap gotT ++ rawT ⟨g.v, g.r, g.f⟩ ++ numsT [bitI g.k]) w' ∧ Ext (w.heap.size + 1) (w.heap.size + 1) W w' := by
       intro W bk hB hT hne hbk
       refine ex_numbers (w.heap.size + 1) (w.heap.size + 1) _ [bitI g.k] bk W hB hgN hbk hne hT (by
        intro y hy
        simp only [List.mem_cons, List.not_mem_nil, or_false] at hy
        subst hy
        exact bitI_in _) ?_ sM
       simp only [List.length_append, List.length_cons, List.length_nil] at hlG ⊢
       omega
      have Hraw := hide hraw
      have Hnum2 := hide hnum2
      have Hgj := hide hgj
      have hjb : (j : Int) + 1 ≤ 1000000 := by omega
      have j1 : (0 : Int) ≤ (j : Int) := by omega
      have hzr2 : wr.heap.size ≠ (w.heap.size + 1) := by omega
      clear hc' hgo hgj hraw hnum2 hlG hrd
      go_upto_region 13 with fail
      obtain ⟨w11, hw11⟩ : ∃ W : World, W = wr.alloc (.cells #[.int .i64 g.v, .int .u32 g.r, .int .u32 g.f, .bool g.k] 99) := ⟨_, rfl⟩
      have hB11 : Below wr.heap.size wr w11 := by rw [hw11]; exact Below.alloc (Below.refl _ _) (Nat.le_refl _) _
      have hob11 : w11.heap[wr.heap.size]? = some (.cells #[.int .i64 g.v, .int .u32 g.r, .int .u32 g.f, .bool g.k] 99 (0, 0)) := by rw [hw11]; exact heap_new _ _ rfl
      have z0 : w11.cell? ⟨wr.heap.size, 0, none⟩ = some (.int .i64 g.v) := by simp [World.cell?, hob11]
      have z1 : w11.cell? ⟨wr.heap.size, 1, none⟩ = some (.int .u32 g.r) := by simp [World.cell?, hob11]
      have z2 : w11.cell? ⟨wr.heap.size, 2, none⟩ = some (.int .u32 g.f) := by simp [World.cell?, hob11]
      have hz11 : wr.heap.size < w11.heap.size := by rw [hw11]; simp
      have HB11 := hide hB11
      have Hob11 := hide hob11
      rw [← hw11]
      clear hw11 hB11 hob11 x0 x1 x2 x3
      go_wp2_with (first
       | (go_at_call 42; refine (Hraw.out _ (HBq.out.below HB11.out) (HTq.out.below (N := wr.heap.size) HB11.out oM)).mono ?_; rintro e w12 ⟨rfl, hB12, hE12⟩; have HB12 := hide hB12; have HE12 := hide ((Ext.of HB11.out hNq).trans hE12); have hob12 := hE12.obj Hob11.out hzr2 dM; have z3 : w12.cell? ⟨wr.heap.size, 3, none⟩ = some (.bool g.k) := (by simp [World.cell?, hob12]); have HT12 := hide (HTq.out.below (HE12.out.1) hgN); have hz12 : wr.heap.size < w12.heap.size := (by have := hE12.size; omega); clear hB12 hE12 hob12)
       | (go_at_call 40; refine (bit_any _ _).mono ?_; rintro e w14 ⟨rfl, rfl⟩)
       | (go_at_call 39; refine (Hnum2.out _ w12.heap.size (HB12.out.below (Below.alloc (Below.refl _ _) (Nat.le_refl _) _)) (HT12.out.below (N := w12.heap.size) (Below.alloc (Below.refl _ _) (Nat.le_refl _) _) oM) oM (heap_new _ _ rfl)).mono ?_; rintro e w13 ⟨rfl, hB13, hE13⟩; have HB13 := hide hB13; have HE13 := hide ((HEq.out.trans HE12.out).trans ((Ext.of (N := (w.heap.size + 1)) (b := (w.heap.size + 1)) (Below.alloc (Below.refl _ _) (Nat.le_refl _) _) HB12.out.2.1).trans hE13)); clear hB13 hE13))
      exact ⟨⟨j + 1, by go_num, by omega, hide (by rw [flat_take Hgj.out]; have q := HB13.out; rw [show gotT g = rawT ⟨g.v, g.r, g.f⟩ ++ numsT [bitI g.k] from rfl]; simpa only [List.append_assoc] using q), HE13⟩, by simp [intOf]; omega⟩
     ·obtain rfl : t.m = j := by omega
      have HEf := hide (HE.out.trans (HE10.out.trans HEq.out))
      have HBf := hide (by have q := HBq.out; rw [← Hlm.out, List.take_length] at q; exact q : Bld (w.heap.size + 1) (w.heap.size + 1) ((memoryT M.mem ++ [124] ++ linesT M ++ ((ts.zip ss).take k).flatMap (fun (p : TaskV × Bool) => taskT p.1 p.2)) ++ [124] ++ numsT [bitI t.done, bitI sb] ++ t.l.flatMap gotT) wr)
      go_wp2_with fail
      exact ⟨⟨k + 1, by go_num, by omega, hide (by rw [flat_take Hzip.out]; have q := HBf.out; rw [show taskT t sb = [124] ++ numsT [bitI t.done, bitI sb] ++ t.l.flatMap gotT from rfl]; simpa only [List.append_assoc] using q), HEf⟩, by simp [intOf]; omega⟩
  ·obtain rfl : ts.length = k := by omega
   have HBf := hide (by have q := HB.out; rw [List.take_of_length_le (by rw [List.length_zip]; omega)] at q; exact q : Bld (w.heap.size + 1) (w.heap.size + 1) (memoryT M.mem ++ [124] ++ linesT M ++ (ts.zip ss).flatMap (fun (p : TaskV × Bool) => taskT p.1 p.2)) wr)
   have hst := Tryz.Builder_String_any_k (w.heap.size + 1) (w.heap.size + 1) _ wr HBf.out.1 HBf.out.2.1
   have Hst := hide hst
   clear hst hobr
   go_wp2_with (first
    | (go_at_call 43; refine Hst.out.mono ?_; rintro e w15 ⟨rfl, _, hb15, _⟩))
   go_ret
   exact ⟨by simp, (Below.alloc (Below.refl _ _) (Nat.le_refl _) _).trans ((HBwr.out.trans hb15).mono oM)⟩
theorem ex_key (V : WorldV) (w : World) (hR : V.R w) (htab : Tab w) (hg0 : 0 < w.heap.size) (hok : V.okK) :
  Calls Tryz.prog 15 #[(woV V)] w (Ret (.string ⟨(keyT V).toArray⟩) w) := by
 try unfold woV
 obtain ⟨M, tA, tc, ts, sA, sc, ss⟩ := V
 obtain ⟨h1, h2, h3, h4, h5, h6⟩ := hok
 exact ex_keyX M tA tc ts sA sc ss w hR htab hg0 h1 h2 h3 h4 h5 h6
def actc (a : AS) : List Value := [.int .i64 (a).o, .int .i64 (a).l, .int .i64 (a).v, .int .u32 (a).r, .int .u32 (a).f, .int .i64 (a).v2, .int .u32 (a).r2, .int .u32 (a).f2]
theorem actc_len (a : AS) : (actc a).length = 8 := rfl
def rowV (A : Option Addr) (n cap : Nat) (i : Nat) : Value := .agg #[.slice A n cap, .int .i64 i]
theorem row_meth (v : Value) (w : World) : (method 400 80 v "Next").run Tryz.prog w = .ok (210, v) w := by kernel_rfl
theorem row_enter (args : Array Value) (w : World) : (callFunc 210 args).run Tryz.prog w = .ok (.enter 210 args) w := enters Tryz.func210 kR rfl args w
theorem row_end (A : Option Addr) (n cap i : Nat) (v r f : Int) (ok : Bool) (w : World) (hi : n ≤ i) (hi6 : i ≤ 1000) :
  Calls Tryz.prog 210 #[rowV A n cap i, .agg #[.int .i64 v, .int .u32 r, .int .u32 f, .bool ok]] w (Ret (.tuple #[.iface 80 (rowV A n cap i), (acV A0), .bool true]) w) := by
 have h1 : (i : Int) ≥ (n : Int) := by omega
 have h2 : (n : Int) ≤ (i : Int) := by omega
 unfold rowV
 clear hi
 go_enter Tryz.func210, Tryz.ntmps210
 go_wp2_with fail
 exact bodyPost_ret (v := .tuple #[.iface 80 (.agg #[.slice A n cap, .int .i64 i]), .agg #[.int .i64 (A0).o, .int .i64 (A0).l, .int .i64 (A0).v, .int .u32 (A0).r, .int .u32 (A0).f, .int .i64 (A0).v2, .int .u32 (A0).r2, .int .u32 (A0).f2], .bool true]) (by simp [results, Tryz.results210, go_sem, A0]; (try go_simp)) rfl ⟨rfl, ab0⟩
theorem row_on (A : Option Addr) (n cap i : Nat) (l : List AS) (a : AS) (v r f : Int) (ok : Bool) (w : World) (hr : Rd w w.heap.size 8 A n (l.flatMap actc)) (hi : i < n) (ha : l[i]? = some a) (hi6 : i ≤ 1000) :
  Calls Tryz.prog 210 #[rowV A n cap i, .agg #[.int .i64 v, .int .u32 r, .int .u32 f, .bool ok]] w (Ret (.tuple #[.iface 80 (rowV A n cap (i + 1)), (acV a), .bool false]) w) := by
 obtain ⟨b, off, rfl, hb, hc⟩ := Rd.elem hr actc_len hi ha
 have x0 : w.cell? ⟨b, off + i * 8, none⟩ = some (.int .i64 a.o) := hc 0 _ rfl
 have x1 : w.cell? ⟨b, off + i * 8 + 1, none⟩ = some (.int .i64 a.l) := hc 1 _ rfl
 have x2 : w.cell? ⟨b, off + i * 8 + 2, none⟩ = some (.int .i64 a.v) := hc 2 _ rfl
 have x3 : w.cell? ⟨b, off + i * 8 + 3, none⟩ = some (.int .u32 a.r) := hc 3 _ rfl
 have x4 : w.cell? ⟨b, off + i * 8 + 4, none⟩ = some (.int .u32 a.f) := hc 4 _ rfl
 have x5 : w.cell? ⟨b, off + i * 8 + 5, none⟩ = some (.int .i64 a.v2) := hc 5 _ rfl
 have x6 : w.cell? ⟨b, off + i * 8 + 6, none⟩ = some (.int .u32 a.r2) := hc 6 _ rfl
 have x7 : w.cell? ⟨b, off + i * 8 + 7, none⟩ = some (.int .u32 a.f2) := hc 7 _ rfl
 have h0 : (0 : Int) ≤ (i : Int) := by omega
 have h1 : (i : Int) < (n : Int) := by omega
 have h2 : ¬ ((i : Int) ≥ (n : Int)) := by omega
 have h3 : ¬ ((n : Int) ≤ (i : Int)) := by omega
 have hn0 : b < w.heap.size + 1 := by omega
 have hn1 : b < w.heap.size + 1 + 1 := by omega
 have hn2 : b < w.heap.size + 1 + 1 + 1 := by omega
 have hw1 : IntKind.i64.wrap ((i : Int) + 1) = (i : Int) + 1 := IntWalk.i64_in _ oM
 have e1 : ((i + 1 : Nat) : Int) = (i : Int) + 1 := by omega
 unfold rowV
 rw [e1]
 clear hr hc ha hi e1
 go_enter Tryz.func210, Tryz.ntmps210
 go_wp2_with fail
 go_region
 all_goals go_wp2
 all_goals exact bodyPost_ret (v := .tuple #[.iface 80 (.agg #[.slice (some ⟨b, off, none⟩) n cap, .int .i64 ((i : Int) + 1)]), .agg #[.int .i64 (a).o, .int .i64 (a).l, .int .i64 (a).v, .int .u32 (a).r, .int .u32 (a).f, .int .i64 (a).v2, .int .u32 (a).r2, .int .u32 (a).f2], .bool false]) (by simp [results, Tryz.results210, go_sem]; (try go_simp)) rfl ⟨rfl, ab0⟩
def TS (T : TypeId) (p : Value) (d : Bool) (a : AS) (k : TaskV) : Prop := k.c = .iface T p ∧ ((d = false ∧ k.a = a ∧ k.nx = (.func (Fn.method "Next") #[.iface T p] #[])) ∨ (d = true ∧ k.a = A0 ∧ k.nx = .nilFunc))
theorem TS.ok {T : TypeId} {p : Value} {d : Bool} {a : AS} {k : TaskV} (h : TS T p d a k) : k.ok := by
 obtain ⟨h1, h2⟩ := h
 refine ⟨⟨T, p, h1⟩, ?_⟩
 rcases h2 with ⟨_, _, h2⟩ | ⟨_, _, h2⟩
 ·exact .inl ⟨T, p, h2⟩
 ·exact .inr h2
theorem TS.done {T : TypeId} {p : Value} {d : Bool} {a : AS} {k : TaskV} (h : TS T p d a k) : k.done = d := by
 obtain ⟨_, ⟨rfl, _, h2⟩ | ⟨rfl, _, h2⟩⟩ := h
 ·simp [TaskV.done, h2]
 ·simp [TaskV.done, h2]
def rowS (A : Option Addr) (cap : Nat) (l : List AS) (i : Nat) : Value × AS × Bool := match l[i]? with
 | some a => (rowV A l.length cap (i + 1), a, false)
 | none => (rowV A l.length cap i, A0, true)
theorem row_next (A : Option Addr) (cap i : Nat) (l : List AS) (g : GS) (w : World) (hr : Rd w w.heap.size 8 A l.length (l.flatMap actc)) (hi6 : i ≤ 1000) :
  Calls Tryz.prog 210 #[rowV A l.length cap i, .agg #[.int .i64 g.v, .int .u32 g.r, .int .u32 g.f, .bool g.k]] w (Ret (.tuple #[.iface 80 (rowS A cap l i).1, (acV ((rowS A cap l i).2.1)), .bool (rowS A cap l i).2.2]) w) := by
 unfold rowS
 cases ha : l[i]? with
 | some a => exact row_on A l.length cap i l a g.v g.r g.f g.k w hr (List.getElem?_eq_some_iff.1 ha).1 ha hi6
 | none => exact row_end A l.length cap i g.v g.r g.f g.k w (List.getElem?_eq_none_iff.1 ha) hi6
def RT (A : Option Addr) (cap : Nat) (l : List AS) (i : Nat) (k : TaskV) : Prop := TS 80 (rowS A cap l i).1 (rowS A cap l i).2.2 (rowS A cap l i).2.1 k
theorem rt_start (A : Option Addr) (cap : Nat) (l : List AS) (w : World) (hr : Rd w w.heap.size 8 A l.length (l.flatMap actc)) :
  ∃ k : TaskV, (RT A cap l 0 k ∧ k.A = none ∧ k.m = 0 ∧ k.cp = 0 ∧ k.l = []) ∧ ∀ W, Below w.heap.size w W → Calls Tryz.prog 55 #[.iface 80 (rowV A l.length cap 0)] W (Ret (tkV k) W) := by
 have hn := fun W (h : Below w.heap.size w W) => row_next A cap 0 l G0 W ((hr.below h).more h.size) oM
 cases hd : (rowS A cap l 0).2.2 with
 | false =>
  refine ⟨⟨.iface 80 (rowS A cap l 0).1, (.func (Fn.method "Next") #[.iface 80 (rowS A cap l 0).1] #[]), (rowS A cap l 0).2.1, none, 0, 0, []⟩, ⟨⟨rfl, .inl ⟨hd, rfl, rfl⟩⟩, rfl, rfl, rfl, rfl⟩, fun W hW => ?_⟩
  refine start_go 80 210 (rowV A l.length cap 0) (rowS A cap l 0).1 (rowS A cap l 0).2.1 W codeT_row row_meth row_enter (fun W2 h2 => ?_)
  have q := hn W2 (hW.trans (h2.mono hW.size))
  rw [hd] at q
  exact q
 | true =>
  refine ⟨⟨.iface 80 (rowS A cap l 0).1, .nilFunc, A0, none, 0, 0, []⟩, ⟨⟨rfl, .inr ⟨hd, rfl, rfl⟩⟩, rfl, rfl, rfl, rfl⟩, fun W hW => ?_⟩
  refine start_done 80 210 (rowV A l.length cap 0) (rowS A cap l 0).1 (rowS A cap l 0).2.1 W codeT_row row_meth row_enter (fun W2 h2 => ?_)
  have q := hn W2 (hW.trans (h2.mono hW.size))
  rw [hd] at q
  exact q
theorem rt_give (A : Option Addr) (cap i : Nat) (l : List AS) (a : AS) (k : TaskV) (w : World) (hr : Rd w w.heap.size 8 A l.length (l.flatMap actc)) (hi6 : i + 1 ≤ 1000) (ha : l[i]? = some a) (hk : RT A cap l i k) (hm : k.m ≤ 1000) (x : W3) (ok : Bool) (W : World) (hW : Below w.heap.size w W) (hg : GotsR W k.A k.m k.cp (k.l.flatMap gotc)) :
  Calls Tryz.prog 67 #[(tkV k), (.agg #[.int .i64 (x).v, .int .u32 (x).r, .int .u32 (x).f, .bool ok])] W fun e w' => ∃ k' : TaskV, e = .returned (tkV k') ∧ (RT A cap l (i + 1) k' ∧ k'.m = k.m + 1 ∧ k'.l = k.l ++ [⟨x.v, x.r, x.f, ok⟩]) ∧ GotsR w' k'.A k'.m k'.cp (k'.l.flatMap gotc) ∧ k'.ok ∧ (∀ C, C < W.heap.size → OffC C k.m k.A → OffC C k'.m k'.A) ∧ Below W.heap.size W w' := by
 try unfold tkV
 have hn := fun W (h : Below w.heap.size w W) => row_next A cap (i + 1) l ⟨x.v, x.r, x.f, ok⟩ W ((hr.below h).more h.size) hi6
 have hs : rowS A cap l i = (rowV A l.length cap (i + 1), a, false) := by unfold rowS; rw [ha]
 unfold RT at hk
 rw [hs] at hk
 obtain ⟨c, nx, ka, kA, m, cp, gl⟩ := k
 obtain ⟨h1, h2⟩ := hk
 simp only at h1 h2 hm hg
 subst h1
 rcases h2 with ⟨-, rfl, rfl⟩ | ⟨h3, _, _⟩
 ·cases hd : (rowS A cap l (i + 1)).2.2 with
  | false =>
   refine (give_go 80 210 (rowV A l.length cap (i + 1)) (rowS A cap l (i + 1)).1 (.iface 80 (rowV A l.length cap (i + 1))) ka (rowS A cap l (i + 1)).2.1 ⟨x.v, x.r, x.f, ok⟩ kA m cp W codeT_row row_meth row_enter hm _ hg (fun W2 h2 => ?_)).mono ?_
   ·have q := hn W2 (hW.trans (h2.mono hW.size))
    rw [hd] at q
    exact q
   ·rintro e w' ⟨A', cp', rfl, hg', hnew, hb⟩
    have hts : TS 80 (rowS A cap l (i + 1)).1 (rowS A cap l (i + 1)).2.2 (rowS A cap l (i + 1)).2.1 ⟨.iface 80 (rowS A cap l (i + 1)).1, (.func (Fn.method "Next") #[.iface 80 (rowS A cap l (i + 1)).1] #[]), (rowS A cap l (i + 1)).2.1, A', m + 1, cp', gl ++ [⟨x.v, x.r, x.f, ok⟩]⟩ := ⟨rfl, .inl ⟨hd, rfl, rfl⟩⟩
    exact ⟨_, rfl, ⟨hts, rfl, rfl⟩, by simpa using hg', hts.ok, (fun C hC _ _ b o e => by have := hnew b o e; omega), hb⟩
  | true =>
   refine (give_done 80 210 (rowV A l.length cap (i + 1)) (rowS A cap l (i + 1)).1 (.iface 80 (rowV A l.length cap (i + 1))) ka (rowS A cap l (i + 1)).2.1 ⟨x.v, x.r, x.f, ok⟩ kA m cp W codeT_row row_meth row_enter hm _ hg (fun W2 h2 => ?_)).mono ?_
   ·have q := hn W2 (hW.trans (h2.mono hW.size))
    rw [hd] at q
    exact q
   ·rintro e w' ⟨A', cp', rfl, hg', hnew, hb⟩
    have hts : TS 80 (rowS A cap l (i + 1)).1 (rowS A cap l (i + 1)).2.2 (rowS A cap l (i + 1)).2.1 ⟨.iface 80 (rowS A cap l (i + 1)).1, .nilFunc, A0, A', m + 1, cp', gl ++ [⟨x.v, x.r, x.f, ok⟩]⟩ := ⟨rfl, .inr ⟨hd, rfl, rfl⟩⟩
    exact ⟨_, rfl, ⟨hts, rfl, rfl⟩, by simpa using hg', hts.ok, (fun C hC _ _ b o e => by have := hnew b o e; omega), hb⟩
 ·cases h3
structure RowP where
 A : Option Addr
 cap : Nat
 l : List AS
 i : Nat
structure PW where
 q : MW
 rows : List RowP
 gots : List (List GS)
 ss : List Bool
def Shows (V : WorldV) (P : PW) : Prop := MShows V.M P.q ∧ V.ts.map TaskV.l = P.gots ∧ V.ss = P.ss ∧ V.ts.length = P.rows.length ∧ P.ss.length = P.rows.length ∧ ∀ (t : Nat) (k : TaskV) (r : RowP), V.ts[t]? = some k → P.rows[t]? = some r → RT r.A r.cap r.l r.i k
def RowsR (w : World) (P : PW) : Prop := ∀ r ∈ P.rows, Rd w w.heap.size 8 r.A r.l.length (r.l.flatMap actc) ∧ r.i + 1 ≤ 1000
theorem mod_at {α : Type} {f : α → α} (l : List α) (t : Nat) : (l.modify t f)[t]? = (l[t]?).map f := by
 rw [List.getElem?_modify]
 cases l[t]? <;> simp
theorem mod_ne {α : Type} {f : α → α} (l : List α) {t j : Nat} (h : t ≠ j) : (l.modify t f)[j]? = l[j]? := by
 rw [List.getElem?_modify]
 cases l[j]? <;> simp [h]
def actP (a : AS) : ActV := ⟨a.o, a.l, ⟨a.v, a.r, a.f⟩, ⟨a.v2, a.r2, a.f2⟩⟩
def RowP.nx (r : RowP) : RowP := ⟨r.A, r.cap, r.l, r.i + 1⟩
def gotP (d : MW × W3 × Bool) : GS := ⟨d.2.1.v, d.2.1.r, d.2.1.f, d.2.2⟩
def PW.nx (P : PW) (t : Nat) (a : AS) (c : Int) : PW := ⟨(P.q.doq t (actP a) c).1, P.rows.modify t RowP.nx, P.gots.modify t (fun gl => gl ++ [gotP (P.q.doq t (actP a) c)]), P.ss⟩
def PW.act (P : PW) (t : Nat) : Option AS := if P.ss.getD t true then none else (P.rows[t]?).bind (fun r => r.l[r.i]?)
theorem act_some {P : PW} {t : Nat} {a : AS} (h : P.act t = some a) : P.ss[t]? = some false ∧ ∃ r, P.rows[t]? = some r ∧ r.l[r.i]? = some a := by
 unfold PW.act at h
 by_cases hs : P.ss.getD t true = true
 ·rw [if_pos hs] at h
  cases h
 ·rw [if_neg hs] at h
  refine ⟨?_, ?_⟩
  ·rw [List.getD_eq_getElem?_getD] at hs
   cases e : P.ss[t]? with
   | none => rw [e] at hs; exact absurd rfl hs
   | some b => rw [e] at hs; cases b with
    | false => rfl
    | true => exact absurd rfl hs
  ·exact Option.bind_eq_some_iff.1 h
theorem rt_done {A : Option Addr} {cap i : Nat} {l : List AS} {k : TaskV} (h : RT A cap l i k) (W : World) : Calls Tryz.prog 41 #[(tkV k)] W (Ret (.bool (rowS A cap l i).2.2) W) := by
 have q := task_done k W (TS.ok h)
 rw [TS.done h] at q
 exact q
theorem rt_act {A : Option Addr} {cap i : Nat} {l : List AS} {a : AS} {k : TaskV} (h : RT A cap l i k) (ha : l[i]? = some a) (W : World) : k.a = a ∧ Calls Tryz.prog 18 #[(tkV k)] W (Ret (.tuple #[(acV k.a), .bool true]) W) := by
 try unfold acV
 try unfold tkV
 have hs : rowS A cap l i = (rowV A l.length cap (i + 1), a, false) := by unfold rowS; rw [ha]
 unfold RT at h
 rw [hs] at h
 obtain ⟨c, nx, ka, kA, m, cp, gl⟩ := k
 obtain ⟨h1, h2⟩ := h
 simp only at h1 h2
 subst h1
 rcases h2 with ⟨-, rfl, rfl⟩ | ⟨h3, _, _⟩
 ·exact ⟨rfl, act_no _ _ _ _ _ _ _ W⟩
 ·cases h3
theorem step_row (V : WorldV) (P : PW) (w : World) (t : Nat) (ch : Int) (a : AS) (hR : V.R w) (hS : Shows V P) (hRows : RowsR w P) (ha : P.act t = some a) (hc : P.q.Can) (hn : P.rows.length ≤ P.q.vs.length) (hgl : ∀ gl ∈ P.gots, gl.length ≤ 1000) (hcw : (Lit.int .i64 ch).wf = true) :
  Calls Tryz.prog 13 #[(woV V), .agg #[.int .i64 0, .int .i64 ((t : Int) + 1), .int .i64 ch]] w fun e w' => ∃ V2 : WorldV, e = .returned (.tuple #[(woV V2), .bool true]) ∧ Shows V2 (P.nx t a ch) ∧ V2.R w' ∧ (∀ C, C < w.heap.size → V.off C → V2.off C) ∧ Below w.heap.size w w' := by
 obtain ⟨hss', r, hr, har⟩ := act_some ha
 obtain ⟨s1, s2, s3, s4, s6, s5⟩ := hS
 have ht : t < P.rows.length := (List.getElem?_eq_some_iff.1 hr).1
 obtain ⟨k, hk⟩ : ∃ k, V.ts[t]? = some k := ⟨_, List.getElem?_eq_getElem oM⟩
 have hg : P.gots[t]? = some k.l := by rw [← s2, List.getElem?_map, hk]; rfl
 have hrt := s5 t k r hk hr
 have hss : V.ss[t]? = some false := by rw [s3]; exact hss'
 have hvl := map_len s1.2.1
 have hth := hc.th
 have hs : (rowS r.A r.cap r.l r.i).2.2 = false := by unfold rowS; rw [har]
 obtain ⟨hrd, hr6⟩ := hRows r (List.mem_of_getElem? hr)
 refine world_Step_go V t ch w (fun V2 => Shows V2 (P.nx t a ch)) hR oM (fun W2 hR2 => ?_) (fun W2 hW2 hR2 => ?_)
 ·exact world_takes V t k false W2 hR2 hk oM hss (fun W3 => by have q := rt_done hrt W3; rwa [hs] at q)
 ·have hact := rt_act hrt har
  refine (world_step V t ch k W2 true (fun m2 y ok' => Shown P.q t (actP a) ch m2 y ok') (fun y ok' k' => RT r.A r.cap r.l (r.i + 1) k' ∧ k'.m = k.m + 1 ∧ k'.l = k.l ++ [⟨y.v, y.r, y.f, ok'⟩]) hR2 hk oM (fun W => (hact W).2) (fun W3 hR3 => ?_) (fun m2 y ok' W3 hE hW3 hg3 => ?_)).mono ?_
  ·rw [(hact W3).1]
   exact do_all (a := actP a) s1 hc oM hcw W3 hR3
  ·have hkm : k.l.length = k.m := gots_length hg3
   exact rt_give r.A r.cap r.i r.l a k W2 ((hrd.below hW2).more hW2.size) hr6 har hrt (by rw [← hkm]; exact hgl _ (List.mem_of_getElem? hg)) y ok' W3 hW3 hg3
  ·rintro e w' ⟨m2, y, ok', k', gs, tc', rfl, ⟨hQ, hy, hok⟩, ⟨hG, hG2, hG3⟩, hR4, hoff, hb⟩
   refine ⟨_, rfl, ⟨hQ, ?_, s3, ?_, ?_, ?_⟩, hR4, hoff, hb⟩
   ·show (V.ts.set t k').map TaskV.l = P.gots.modify t _
    refine List.ext_getElem? (fun j => ?_)
    rw [List.getElem?_map]
    by_cases e : t = j
    ·subst e
     rw [List.getElem?_set_self oM, mod_at, hg]
     show some k'.l = some _
     rw [hG3, hy, hok]
     rfl
    ·rw [List.getElem?_set_ne e, mod_ne _ e, ← s2, List.getElem?_map]
   ·show (V.ts.set t k').length = (P.rows.modify t RowP.nx).length
    rw [List.length_set, List.length_modify]
    exact s4
   ·show P.ss.length = (P.rows.modify t RowP.nx).length
    rw [List.length_modify]
    exact s6
   ·intro j kj rj hj1 hj2
    have hj1' : (V.ts.set t k')[j]? = some kj := hj1
    have hj2' : (P.rows.modify t RowP.nx)[j]? = some rj := hj2
    by_cases e : t = j
    ·subst e
     rw [List.getElem?_set_self oM] at hj1'
     rw [mod_at, hr] at hj2'
     injection hj1' with hj1'
     injection hj2' with hj2'
     subst hj1' hj2'
     exact hG
    ·rw [List.getElem?_set_ne e] at hj1'
     rw [mod_ne _ e] at hj2'
     exact s5 j kj rj hj1' hj2'
end Go.Proofs.YtnnmenmifphadaaGreatDoor
