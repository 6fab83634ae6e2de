/- Package task: the world; dead, stopped, takes. -/
import Derived.Test.YtnnmenmifphadaaGreatDoorU15
import Derived.Test.YtnnmenmifphadaaGreatDoorU30
set_option linter.unusedSimpArgs false
set_option linter.unusedVariables false
set_option maxRecDepth 100000
set_option maxHeartbeats 40000000
namespace Go.Proofs.YtnnmenmifphadaaGreatDoor
open Go.RowKit Go.Maps
structure TaskV where
 c : Value
 nx : Value
 a : AS
 A : Option Addr
 m : Nat
 cp : Nat
 l : List GS
abbrev tkV (x : TaskV) : Value := .agg #[x.c, x.nx, .int .i64 x.a.o, .int .i64 x.a.l, .int .i64 x.a.v, .int .u32 x.a.r, .int .u32 x.a.f, .int .i64 x.a.v2, .int .u32 x.a.r2, .int .u32 x.a.f2, .slice x.A x.m x.cp]
def taskc (k : TaskV) : List Value := [k.c, k.nx, .int .i64 (k.a).o, .int .i64 (k.a).l, .int .i64 (k.a).v, .int .u32 (k.a).r, .int .u32 (k.a).f, .int .i64 (k.a).v2, .int .u32 (k.a).r2, .int .u32 (k.a).f2, .slice k.A k.m k.cp]
theorem taskc_len (k : TaskV) : (taskc k).length = 11 := rfl
def TaskV.ok (k : TaskV) : Prop := (∃ T p, k.c = .iface T p) ∧ ((∃ T p, k.nx = .func (Fn.method "Next") #[.iface T p] #[]) ∨ k.nx = .nilFunc)
structure WorldV where
 M : MachV
 tA : Option Addr
 tc : Nat
 ts : List TaskV
 sA : Option Addr
 sc : Nat
 ss : List Bool
abbrev woV (x : WorldV) : Value := .agg #[.slice x.M.mem.pA x.M.mem.hs.length x.M.mem.pc, .slice x.M.mem.vA x.M.mem.vs.length x.M.mem.vc, .slice x.M.ln.fA x.M.ln.first.length x.M.ln.fc, .slice x.M.ln.lA x.M.ln.logs.length x.M.ln.lc, .map x.M.ln.asks, .slice x.M.sA x.M.steps.length x.M.sc, .int .i64 x.M.crashes, .slice x.tA x.ts.length x.tc, .slice x.sA x.ss.length x.sc]
def WorldV.R (w : World) (V : WorldV) : Prop := V.M.R w ∧ (V.ts.length ≤ V.tc ∧ (V.tA = none → V.ts.length = 0) ∧ Rd w w.heap.size 11 V.tA V.ts.length (V.ts.flatMap taskc) ∧ ∀ k ∈ V.ts, GotsR w k.A k.m k.cp (k.l.flatMap gotc) ∧ k.ok) ∧ (V.ss.length ≤ V.sc ∧ (V.sA = none → V.ss.length = 0) ∧ Rd w w.heap.size 1 V.sA V.ss.length (V.ss.map Value.bool))
theorem WorldV.R.below {w w' : World} {V : WorldV} (h : V.R w) (hb : Below w.heap.size w w') : V.R w' :=
 ⟨h.1.below hb, ⟨h.2.1.1, h.2.1.2.1, (h.2.1.2.2.1.below hb).more hb.size, fun k hk => ⟨(h.2.1.2.2.2 k hk).1.below hb, (h.2.1.2.2.2 k hk).2⟩⟩, h.2.2.1, h.2.2.2.1, (h.2.2.2.2.below hb).more hb.size⟩
def WorldV.off (C : Nat) (V : WorldV) : Prop := V.M.off C ∧ OffC C V.ts.length V.tA ∧ OffC C V.ss.length V.sA ∧ ∀ k ∈ V.ts, OffC C k.m k.A
theorem WorldV.off_new {w : World} {V : WorldV} {C : Nat} (h : V.R w) (hC : w.heap.size ≤ C) : V.off C := ⟨MachV.off_new h.1 hC, OffC.new h.2.1.2.2.1 hC, OffC.new h.2.2.2.2 hC, fun k hk => by
 obtain ⟨_, _, hr⟩ := (h.2.1.2.2.2 k hk).1
 exact OffC.new hr hC⟩
theorem GotsR.set' {w : World} {A : Option Addr} {m cp C o : Nat} {xs : List Value} (h : GotsR w A m cp xs) (hoff : OffC C m A) (x : Value) : GotsR (w.setCell ⟨C, o, none⟩ x) A m cp xs := by
 obtain ⟨h1, h2, h3⟩ := h
 refine ⟨h1, h2, ?_⟩
 rw [show (w.setCell ⟨C, o, none⟩ x).heap.size = w.heap.size by simp]
 exact Rd.set_off h3 hoff x
theorem WorldV.R.set {w : World} {V : WorldV} {C o : Nat} (h : V.R w) (hoff : V.off C) (hc : HasC ⟨C, o, none⟩ w) (x : Value) : V.R (w.setCell ⟨C, o, none⟩ x) := by
 have es : (w.setCell ⟨C, o, none⟩ x).heap.size = w.heap.size := by simp
 refine ⟨h.1.set hoff.1 hc x, ⟨h.2.1.1, h.2.1.2.1, ?_, fun k hk => ⟨(h.2.1.2.2.2 k hk).1.set' (hoff.2.2.2 k hk) x, (h.2.1.2.2.2 k hk).2⟩⟩, h.2.2.1, h.2.2.2.1, ?_⟩
 ·rw [es]; exact Rd.set_off h.2.1.2.2.1 hoff.2.1 x
 ·rw [es]; exact Rd.set_off h.2.2.2.2 hoff.2.2.1 x
theorem world_dead (V : WorldV) (w : World) (h : 0 < V.M.mem.vs.length) : Calls Tryz.prog 27 #[(.agg #[.slice ((V).M).mem.pA ((V).M).mem.hs.length ((V).M).mem.pc, .slice ((V).M).mem.vA ((V).M).mem.vs.length ((V).M).mem.vc, .slice ((V).M).ln.fA ((V).M).ln.first.length ((V).M).ln.fc, .slice ((V).M).ln.lA ((V).M).ln.logs.length ((V).M).ln.lc, .map ((V).M).ln.asks, .slice ((V).M).sA ((V).M).steps.length ((V).M).sc, .int .i64 ((V).M).crashes, .slice (V).tA (V).ts.length (V).tc, .slice (V).sA (V).ss.length (V).sc])] w (Ret (.bool false) w) := by
 have hsz := fun W => mach_size V.M W
 have Hsz := hide hsz
 have hn : ¬ ((V.M.mem.vs.length : Int) = 0) := by omega
 have hn2 : ((V.M.mem.vs.length : Int) == 0) = false := by simpa using hn
 clear hsz
 go_enter Tryz.func27, Tryz.ntmps27
 go_wp2_with (first | (go_at_call 54; refine (Hsz.out _).mono ?_; rintro e w1 ⟨rfl, hb1⟩; obtain ⟨hcc1, hff1, hs1⟩ := bC hb1; (try simp at hs1)))
 go_ret
 exact ⟨rfl, ab0⟩
theorem world_stopped (V : WorldV) (t : Nat) (b : Bool) (w : World) (hR : V.R w) (hb : V.ss[t]? = some b) : Calls Tryz.prog 64 #[(.agg #[.slice ((V).M).mem.pA ((V).M).mem.hs.length ((V).M).mem.pc, .slice ((V).M).mem.vA ((V).M).mem.vs.length ((V).M).mem.vc, .slice ((V).M).ln.fA ((V).M).ln.first.length ((V).M).ln.fc, .slice ((V).M).ln.lA ((V).M).ln.logs.length ((V).M).ln.lc, .map ((V).M).ln.asks, .slice ((V).M).sA ((V).M).steps.length ((V).M).sc, .int .i64 ((V).M).crashes, .slice (V).tA (V).ts.length (V).tc, .slice (V).sA (V).ss.length (V).sc]), .int .i64 t] w (Ret (.bool b) w) := by
 have ht : t < V.ss.length := (List.getElem?_eq_some_iff.1 hb).1
 obtain ⟨bl, off, e, hbl, c0⟩ := Rd.one hR.2.2.2.2 ht hb
 obtain ⟨M, tA, tc, ts, sA, sc, ss⟩ := V
 simp only at e ht
 subst e
 have h0 : (0 : Int) ≤ (t : Int) := by omega
 have h1 : (t : Int) < (ss.length : Int) := by omega
 have hz : bl < w.heap.size + 1 := by omega
 clear hR hb
 go_enter Tryz.func64, Tryz.ntmps64
 go_wp2_with fail
 go_ret
 exact ⟨rfl, ab0⟩
theorem world_takes (V : WorldV) (t : Nat) (k : TaskV) (d : Bool) (w : World) (hR : V.R w) (hk : V.ts[t]? = some k) (hn : V.ts.length ≤ 1000) (hs : V.ss[t]? = some false) (hd : ∀ W, Calls Tryz.prog 41 #[(.agg #[(k).c, (k).nx, .int .i64 ((k).a).o, .int .i64 ((k).a).l, .int .i64 ((k).a).v, .int .u32 ((k).a).r, .int .u32 ((k).a).f, .int .i64 ((k).a).v2, .int .u32 ((k).a).r2, .int .u32 ((k).a).f2, .slice (k).A (k).m (k).cp])] W (Ret (.bool d) W)) : Calls Tryz.prog 29 #[(.agg #[.slice ((V).M).mem.pA ((V).M).mem.hs.length ((V).M).mem.pc, .slice ((V).M).mem.vA ((V).M).mem.vs.length ((V).M).mem.vc, .slice ((V).M).ln.fA ((V).M).ln.first.length ((V).M).ln.fc, .slice ((V).M).ln.lA ((V).M).ln.logs.length ((V).M).ln.lc, .map ((V).M).ln.asks, .slice ((V).M).sA ((V).M).steps.length ((V).M).sc, .int .i64 ((V).M).crashes, .slice (V).tA (V).ts.length (V).tc, .slice (V).sA (V).ss.length (V).sc]), .int .i64 ((t : Int) + 1)] w (Ret (.bool (!d)) w) := by
 have ht : t < V.ts.length := (List.getElem?_eq_some_iff.1 hk).1
 have hst := fun W (h : V.R W) => world_stopped V t false W h hs
 obtain ⟨bl, off, e, hbl, hcl⟩ := Rd.elem hR.2.1.2.2.1 taskc_len ht hk
 have Hst := hide hst
 have Hd := hide hd
 have HR := hide hR
 obtain ⟨M, tA, tc, ts, sA, sc, ss⟩ := V
 simp only at e ht hn
 subst e
 have g1 : (t : Int) + 1 ≥ 1 := by omega
 have g1' : (1 : Int) ≤ (t : Int) + 1 := by omega
 have g2 : (t : Int) + 1 ≤ (ts.length : Int) := by omega
 have h0 : (0 : Int) ≤ (t : Int) := by omega
 have h1 : (t : Int) < (ts.length : Int) := by omega
 have hw1 : IntKind.i64.wrap ((t : Int) + 1 - 1) = (t : Int) := by rw [show (t : Int) + 1 - 1 = (t : Int) by omega]; exact IntWalk.i64_in _ oM
 have hw2 : IntKind.i64.wrap (t : Int) = (t : Int) := IntWalk.i64_in _ oM
 have hz : bl < w.heap.size + 1 := by omega
 have t0 : w.cell? ⟨bl, off + t * 11, none⟩ = some (k.c) := hcl 0 _ rfl
 have t1 : w.cell? ⟨bl, off + t * 11 + 1, none⟩ = some (k.nx) := hcl 1 _ rfl
 have t2 : w.cell? ⟨bl, off + t * 11 + 2, none⟩ = some (.int .i64 k.a.o) := hcl 2 _ rfl
 have t3 : w.cell? ⟨bl, off + t * 11 + 3, none⟩ = some (.int .i64 k.a.l) := hcl 3 _ rfl
 have t4 : w.cell? ⟨bl, off + t * 11 + 4, none⟩ = some (.int .i64 k.a.v) := hcl 4 _ rfl
 have t5 : w.cell? ⟨bl, off + t * 11 + 5, none⟩ = some (.int .u32 k.a.r) := hcl 5 _ rfl
 have t6 : w.cell? ⟨bl, off + t * 11 + 6, none⟩ = some (.int .u32 k.a.f) := hcl 6 _ rfl
 have t7 : w.cell? ⟨bl, off + t * 11 + 7, none⟩ = some (.int .i64 k.a.v2) := hcl 7 _ rfl
 have t8 : w.cell? ⟨bl, off + t * 11 + 8, none⟩ = some (.int .u32 k.a.r2) := hcl 8 _ rfl
 have t9 : w.cell? ⟨bl, off + t * 11 + 9, none⟩ = some (.int .u32 k.a.f2) := hcl 9 _ rfl
 have t10 : w.cell? ⟨bl, off + t * 11 + 10, none⟩ = some (.slice k.A k.m k.cp) := hcl 10 _ rfl
 clear hR hst hd hs hk hcl
 go_enter Tryz.func29, Tryz.ntmps29
 go_wp2_with (first
  | (go_at_call 64; refine (Hst.out _ (HR.out.below ab0)).mono ?_; rintro e w1 ⟨rfl, hb1⟩; obtain ⟨hcc1, hff1, hs1⟩ := bC hb1; (try simp at hs1); have hz1 : w.heap.size < w1.heap.size := oM; have hz2 : bl < w1.heap.size := oM)
  | (go_at_call 41; refine (Hd.out _).mono ?_; rintro e w2 ⟨rfl, hb2⟩; obtain ⟨hcc2, hff2, hs2⟩ := bC hb2; (try simp at hs2)))
 go_ret
 exact ⟨rfl, ab0⟩
end Go.Proofs.YtnnmenmifphadaaGreatDoor
namespace Go.Proofs.YtnnmenmifphadaaGreatDoor
open Go.RowKit
theorem info_cT : (Tryz.prog.info? 75).map (fun i => (i.zero, i.size, i.bytes)) = some (some (.agg #[.nilIface, .nilFunc, .int .i64 0, .int .i64 0, .int .i64 0, .int .u32 0, .int .u32 0, .int .i64 0, .int .u32 0, .int .u32 0, .slice none 0 0]), 11, 96) := by kernel_rfl
theorem clone_T (A : Option Addr) (n cap : Nat) (xs : List Value) (w : World) (hr : Rd w w.heap.size 11 A n xs) (hA : A = none → n = 0) (h1 : ∀ u ∈ xs, u.oneCell' = true) (hn : n ≤ 1000000) :
  Calls Tryz.prog 66 #[.slice A n cap] w fun e w' => ∃ A' cap', e = .returned (.slice A' n cap') ∧ w'.ownsRow w.heap.size 75 11 (.slice A' n cap') n xs ∧ Below w.heap.size w w' := by
 obtain ⟨i0, hi0, jz0, jz1, jz2⟩ := info_parts info_cT
 have hi := hide hi0
 have iz0 := hide jz0
 have iz1 := hide jz1
 have iz2 := hide jz2
 clear hi0 jz0 jz1 jz2
 have Hr := hide hr
 have H1 := hide h1
 cases A with
 | none =>
  obtain rfl : n = 0 := hA rfl
  have hx : xs = [] := List.eq_nil_of_length_eq_zero (by simpa using hr.1)
  subst hx
  have heq : ∀ W : World, (binOp .eql 37 (.slice none 0 cap) (.slice none 0 0)).run Tryz.prog W = .ok (.bool true) W := fun W => by kernel_rfl
  clear hr hA
  go_enter Tryz.func66, Tryz.ntmps66
  go_wp2_with fail
  go_ret
  exact ⟨none, 0, rfl, World.ownsRow_nil _ _ _ _, ab0⟩
 | some a =>
  have heq : ∀ W : World, (binOp .eql 37 (.slice (some a) n cap) (.slice none 0 0)).run Tryz.prog W = .ok (.bool false) W := fun W => by kernel_rfl
  clear hr hA h1
  go_enter Tryz.func66, Tryz.ntmps66
  go_wp2_with (first
   | (at_builtin; refine wpList_append_rd rfl _ _ 37 rfl w.heap.size 75 i0 _ 11 96 Tryz.underlying37 hi.out iz0.out iz1.out iz2.out rfl dM (.slice (some ⟨w.heap.size, 0, none⟩) 0 0) 0 [] rfl (World.ownsRow_made w #[] 0 (Nat.le_refl _) (Nat.zero_le _) rfl) (some a) n cap xs rfl w.heap.size (Hr.out.below ab0) H1.out (by unfold maxLen; omega) oM sM w.heap.size w ab0 (Nat.le_refl _) ?_; intro v' w6 hown6 hb6 hsz6))
  rw [Nat.zero_add, List.nil_append] at hown6
  obtain ⟨A', cap', rfl, hcp, hbl⟩ := own_slice hown6
  go_wp2_with fail
  go_ret
  exact ⟨A', cap', rfl, hown6, ab0⟩
theorem ones_tasks (l : List TaskV) (h : ∀ k ∈ l, k.ok) : ∀ u ∈ l.flatMap taskc, u.oneCell' = true := by
 intro u hu
 obtain ⟨k, hk, hu⟩ := List.mem_flatMap.1 hu
 obtain ⟨⟨T, p, h1⟩, h2⟩ := h k hk
 simp only [taskc, List.mem_cons, List.not_mem_nil, or_false] at hu
 rcases hu with rfl | rfl | rfl | rfl | rfl | rfl | rfl | rfl | rfl | rfl | rfl
 ·rw [h1]; rfl
 ·rcases h2 with ⟨T2, p2, h2⟩ | h2
  ·rw [h2]; rfl
  ·rw [h2]; rfl
 all_goals rfl
end Go.Proofs.YtnnmenmifphadaaGreatDoor
namespace Go.Proofs.YtnnmenmifphadaaGreatDoor
open Go.RowKit Go.Maps
def StoV (v : Value) : Prop := ∀ (P : Program) (w : World) (a : Addr) (m : Mode), (store a v m).run P w = stored P w a v m
theorem TaskV.ok.sto {k : TaskV} (h : k.ok) : StoV k.c ∧ StoV k.nx := by
 obtain ⟨⟨T, p, h1⟩, h2⟩ := h
 refine ⟨by rw [h1]; exact fun P w a m => run_store P w a _ m rfl, ?_⟩
 rcases h2 with ⟨T2, p2, h2⟩ | h2
 ·rw [h2]; exact fun P w a m => run_store P w a _ m rfl
 ·rw [h2]; exact fun P w a m => run_store P w a _ m rfl
def worldz : List Value := [.slice none 0 0, .slice none 0 0, .slice none 0 0, .slice none 0 0, .map none, .slice none 0 0, .int .i64 0, .slice none 0 0, .slice none 0 0]
def StepMid (w w2 : World) (m2 : MachV) (x : W3) (ok : Bool) (tv sv : Value) (wx : World) : Prop :=
 BoxC w.heap.size (machl m2 ++ [tv, sv]) wx ∧ BoxC (w.heap.size + 1) worldz wx ∧ BoxC (w2.heap.size + 1) (gotl x ok) wx ∧ m2.R wx ∧ Below w.heap.size w wx ∧ w2.heap.size + 1 < wx.heap.size
theorem box_of9 {B : Nat} {v0 v1 v2 v3 v4 v5 v6 v7 v8 : Value} {w : World} (h0 : w.cell? ⟨B, 0, none⟩ = some v0) (h1 : w.cell? ⟨B, 1, none⟩ = some v1) (h2 : w.cell? ⟨B, 2, none⟩ = some v2) (h3 : w.cell? ⟨B, 3, none⟩ = some v3) (h4 : w.cell? ⟨B, 4, none⟩ = some v4) (h5 : w.cell? ⟨B, 5, none⟩ = some v5) (h6 : w.cell? ⟨B, 6, none⟩ = some v6) (h7 : w.cell? ⟨B, 7, none⟩ = some v7) (h8 : w.cell? ⟨B, 8, none⟩ = some v8) (hf : ∀ o, w.frozen? ⟨B, o, none⟩ = false) : BoxC B [v0, v1, v2, v3, v4, v5, v6, v7, v8] w :=
 ⟨fun j u hu => by
  match j, hu with
  | 0, hu => injection hu with hu; subst hu; exact h0
  | 1, hu => injection hu with hu; subst hu; exact h1
  | 2, hu => injection hu with hu; subst hu; exact h2
  | 3, hu => injection hu with hu; subst hu; exact h3
  | 4, hu => injection hu with hu; subst hu; exact h4
  | 5, hu => injection hu with hu; subst hu; exact h5
  | 6, hu => injection hu with hu; subst hu; exact h6
  | 7, hu => injection hu with hu; subst hu; exact h7
  | 8, hu => injection hu with hu; subst hu; exact h8, hf, cell_lt h0⟩
theorem box_head {B : Nat} {w : World} {cs vs rest : List Value} (h : BoxC B (cs ++ rest) w) (hl : cs.length = vs.length) : BoxC B (vs ++ rest) (setFrom w B 0 vs) := by
 have q : ∀ (vs cs pre : List Value) (k : Nat) {w : World}, pre.length = k → cs.length = vs.length → BoxC B (pre ++ (cs ++ rest)) w → BoxC B (pre ++ (vs ++ rest)) (setFrom w B k vs) := by
  intro vs
  induction vs with
  | nil => intro cs pre k w _ hl h; have : cs = [] := List.eq_nil_of_length_eq_zero hl; subst this; exact h
  | cons x l ih =>
   intro cs pre k w hp hl h
   match cs, hl with
   | c :: cs, hl =>
    have q := h.store (o := k) (by simp; omega) x
    rw [List.set_append_right _ _ oM, show k - pre.length = 0 by omega, List.cons_append, List.set_cons_zero] at q
    have q2 := ih cs (pre ++ [x]) (k + 1) (w := w.setCell ⟨B, k, none⟩ x) (by simp; omega) (by simpa using hl) (by rw [List.append_assoc]; exact q)
    rw [List.append_assoc] at q2
    exact q2
 exact q vs cs [] 0 rfl hl h
theorem world_step (V : WorldV) (t : Nat) (ch : Int) (k : TaskV) (w : World) (d : Bool) (E : MachV → W3 → Bool → Prop) (G : W3 → Bool → TaskV → Prop) (hR : V.R w) (hk : V.ts[t]? = some k) (hn : V.ts.length ≤ 1000)
  (hact : ∀ W, Calls Tryz.prog 18 #[(tkV k)] W (Ret (.tuple #[(acV k.a), .bool d]) W))
  (hdo : ∀ W, V.M.R W → Calls Tryz.prog 65 #[(maV V.M), .int .i64 ((t : Int) + 1), (acV k.a), .int .i64 ch] W fun e w' => ∃ (m2 : MachV) (x : W3) (ok : Bool) (er : Int), e = .returned (.tuple #[(maV m2), (.agg #[.int .i64 (x).v, .int .u32 (x).r, .int .u32 (x).f, .bool ok]), .int .i64 er]) ∧ (er = 0 ∨ er ≠ 0 ∧ m2 = V.M ∧ x = ⟨0, 0, 0⟩ ∧ ok = false) ∧ E m2 x ok ∧ m2.R w' ∧ (∀ C, C < W.heap.size → V.M.off C → m2.off C) ∧ Below W.heap.size W w')
  (hgive : ∀ (m2 : MachV) (x : W3) (ok : Bool) (W : World), E m2 x ok → Below w.heap.size w W → GotsR W k.A k.m k.cp (k.l.flatMap gotc) → Calls Tryz.prog 67 #[(tkV k), (.agg #[.int .i64 (x).v, .int .u32 (x).r, .int .u32 (x).f, .bool ok])] W fun e w' => ∃ k' : TaskV, e = .returned (tkV k') ∧ G x ok k' ∧ GotsR w' k'.A k'.m k'.cp (k'.l.flatMap gotc) ∧ k'.ok ∧ (∀ C, C < W.heap.size → OffC C k.m k.A → OffC C k'.m k'.A) ∧ Below W.heap.size W w') :
  Calls Tryz.prog 30 #[(woV V), .int .i64 ((t : Int) + 1), .int .i64 ch] w fun e w' => ∃ (m2 : MachV) (x : W3) (ok : Bool) (k' : TaskV) (gs tc' : Nat), e = .returned (woV (⟨m2, some ⟨gs, 0, none⟩, tc', V.ts.set t k', V.sA, V.sc, V.ss⟩ : WorldV)) ∧ E m2 x ok ∧ G x ok k' ∧ WorldV.R w' ⟨m2, some ⟨gs, 0, none⟩, tc', V.ts.set t k', V.sA, V.sc, V.ss⟩ ∧ (∀ C, C < w.heap.size → V.off C → WorldV.off C ⟨m2, some ⟨gs, 0, none⟩, tc', V.ts.set t k', V.sA, V.sc, V.ss⟩) ∧ Below w.heap.size w w' := by
 try unfold maV
 try unfold woV
 have ht : t < V.ts.length := (List.getElem?_eq_some_iff.1 hk).1
 obtain ⟨bl, off, e, hbl, hcl⟩ := Rd.elem hR.2.1.2.2.1 taskc_len ht hk
 have hkR := hR.2.1.2.2.2 k (List.mem_of_getElem? hk)
 have hone := ones_tasks V.ts (fun y hy => (hR.2.1.2.2.2 y hy).2)
 have hct := fun W (h : Rd W W.heap.size 11 V.tA V.ts.length (V.ts.flatMap taskc)) => clone_T V.tA V.ts.length V.tc (V.ts.flatMap taskc) W h hR.2.1.2.1 hone oM
 have Hct := hide hct
 have Hact := hide hact
 have Hdo := hide hdo
 have Hgive := hide hgive
 have HR := hide hR
 have Hk := hide hk
 have HkR := hide hkR.1
 obtain ⟨M, tA, tc, ts, sA, sc, ss⟩ := V
 simp only at e ht hn
 subst e
 (try simp only at Hct)
 (try simp only at Hdo)
 have h0 : (0 : Int) ≤ (t : Int) := by omega
 have h1 : (t : Int) < (ts.length : Int) := by omega
 have hw1 : IntKind.i64.wrap ((t : Int) + 1 - 1) = (t : Int) := by rw [show (t : Int) + 1 - 1 = (t : Int) by omega]; exact IntWalk.i64_in _ oM
 have hw2 : IntKind.i64.wrap (t : Int) = (t : Int) := IntWalk.i64_in _ oM
 have hz : bl < w.heap.size + 1 := by omega
 have hz' : bl < w.heap.size + 1 + 1 := by omega
 have t0 : w.cell? ⟨bl, off + t * 11, none⟩ = some (k.c) := hcl 0 _ rfl
 have t1 : w.cell? ⟨bl, off + t * 11 + 1, none⟩ = some (k.nx) := hcl 1 _ rfl
 have t2 : w.cell? ⟨bl, off + t * 11 + 2, none⟩ = some (.int .i64 k.a.o) := hcl 2 _ rfl
 have t3 : w.cell? ⟨bl, off + t * 11 + 3, none⟩ = some (.int .i64 k.a.l) := hcl 3 _ rfl
 have t4 : w.cell? ⟨bl, off + t * 11 + 4, none⟩ = some (.int .i64 k.a.v) := hcl 4 _ rfl
 have t5 : w.cell? ⟨bl, off + t * 11 + 5, none⟩ = some (.int .u32 k.a.r) := hcl 5 _ rfl
 have t6 : w.cell? ⟨bl, off + t * 11 + 6, none⟩ = some (.int .u32 k.a.f) := hcl 6 _ rfl
 have t7 : w.cell? ⟨bl, off + t * 11 + 7, none⟩ = some (.int .i64 k.a.v2) := hcl 7 _ rfl
 have t8 : w.cell? ⟨bl, off + t * 11 + 8, none⟩ = some (.int .u32 k.a.r2) := hcl 8 _ rfl
 have t9 : w.cell? ⟨bl, off + t * 11 + 9, none⟩ = some (.int .u32 k.a.f2) := hcl 9 _ rfl
 have t10 : w.cell? ⟨bl, off + t * 11 + 10, none⟩ = some (.slice k.A k.m k.cp) := hcl 10 _ rfl
 clear hR hk hkR hone hct hact hdo hgive hcl
 go_enter Tryz.func30, Tryz.ntmps30
 go_upto_if 33 with (first
  | (go_at_call 18; refine (Hact.out _).mono ?_; rintro e w1 ⟨rfl, hb1⟩; obtain ⟨hcc1, hff1, hs1⟩ := bC hb1; (try simp at hs1); have hz10 : w.heap.size < w1.heap.size := oM; have hz11 : w.heap.size + 1 < w1.heap.size := oM)
  | (go_at_call 65; refine (Hdo.out _ (HR.out.1.below ab0)).mono ?_; rintro e w2 ⟨m2, x, ok, er, rfl, her, hE2, hR2, hoff2, hb2⟩; obtain ⟨hcc2, hff2, hs2⟩ := bC hb2; (try simp at hs2); have hz20 : w.heap.size < w2.heap.size := oM; have hz21 : w.heap.size + 1 < w2.heap.size := oM; have HE2 := hide hE2; have HR2 := hide hR2; have Hoff2 := hide hoff2; have Her := hide her; clear hE2 hR2 hoff2 her))
 obtain ⟨w3, hw3⟩ : ∃ W : World, W = (w2.alloc (.cells #[.slice (m2).mem.pA (m2).mem.hs.length (m2).mem.pc, .slice (m2).mem.vA (m2).mem.vs.length (m2).mem.vc, .slice (m2).ln.fA (m2).ln.first.length (m2).ln.fc, .slice (m2).ln.lA (m2).ln.logs.length (m2).ln.lc, .map (m2).ln.asks, .slice (m2).sA (m2).steps.length (m2).sc, .int .i64 (m2).crashes] 36)).alloc (.cells #[.int .i64 x.v, .int .u32 x.r, .int .u32 x.f, .bool ok] 99) := ⟨_, rfl⟩
 have b0 : w3.cell? ⟨w.heap.size, 0, none⟩ = some (.slice M.mem.pA M.mem.hs.length M.mem.pc) := by rw [hw3]; go_simp
 have b1 : w3.cell? ⟨w.heap.size, 1, none⟩ = some (.slice M.mem.vA M.mem.vs.length M.mem.vc) := by rw [hw3]; go_simp
 have b2 : w3.cell? ⟨w.heap.size, 2, none⟩ = some (.slice M.ln.fA M.ln.first.length M.ln.fc) := by rw [hw3]; go_simp
 have b3 : w3.cell? ⟨w.heap.size, 3, none⟩ = some (.slice M.ln.lA M.ln.logs.length M.ln.lc) := by rw [hw3]; go_simp
 have b4 : w3.cell? ⟨w.heap.size, 4, none⟩ = some (.map M.ln.asks) := by rw [hw3]; go_simp
 have b5 : w3.cell? ⟨w.heap.size, 5, none⟩ = some (.slice M.sA M.steps.length M.sc) := by rw [hw3]; go_simp
 have b6 : w3.cell? ⟨w.heap.size, 6, none⟩ = some (.int .i64 M.crashes) := by rw [hw3]; go_simp
 have b7 : w3.cell? ⟨w.heap.size, 7, none⟩ = some (.slice (some ⟨bl, off, none⟩) ts.length tc) := by rw [hw3]; go_simp
 have b8 : w3.cell? ⟨w.heap.size, 8, none⟩ = some (.slice sA ss.length sc) := by rw [hw3]; go_simp
 have r0 : w3.cell? ⟨w.heap.size + 1, 0, none⟩ = some (.slice none 0 0) := by rw [hw3]; go_simp
 have r1 : w3.cell? ⟨w.heap.size + 1, 1, none⟩ = some (.slice none 0 0) := by rw [hw3]; go_simp
 have r2 : w3.cell? ⟨w.heap.size + 1, 2, none⟩ = some (.slice none 0 0) := by rw [hw3]; go_simp
 have r3 : w3.cell? ⟨w.heap.size + 1, 3, none⟩ = some (.slice none 0 0) := by rw [hw3]; go_simp
 have r4 : w3.cell? ⟨w.heap.size + 1, 4, none⟩ = some (.map none) := by rw [hw3]; go_simp
 have r5 : w3.cell? ⟨w.heap.size + 1, 5, none⟩ = some (.slice none 0 0) := by rw [hw3]; go_simp
 have r6 : w3.cell? ⟨w.heap.size + 1, 6, none⟩ = some (.int .i64 0) := by rw [hw3]; go_simp
 have r7 : w3.cell? ⟨w.heap.size + 1, 7, none⟩ = some (.slice none 0 0) := by rw [hw3]; go_simp
 have r8 : w3.cell? ⟨w.heap.size + 1, 8, none⟩ = some (.slice none 0 0) := by rw [hw3]; go_simp
 have fb : ∀ o, w3.frozen? ⟨w.heap.size, o, none⟩ = false := by intro o; rw [hw3]; go_simp
 have fr : ∀ o, w3.frozen? ⟨w.heap.size + 1, o, none⟩ = false := by intro o; rw [hw3]; go_simp
 have XB := hide (show BoxC w.heap.size (machl M ++ [.slice (some ⟨bl, off, none⟩) ts.length tc, .slice sA ss.length sc]) w3 from box_of9 b0 b1 b2 b3 b4 b5 b6 b7 b8 fb)
 have XR := hide (show BoxC (w.heap.size + 1) worldz w3 from box_of9 r0 r1 r2 r3 r4 r5 r6 r7 r8 fr)
 have XM := hide (show BoxC w2.heap.size (machl m2) w3 by rw [hw3]; exact (BoxC.made w2 #[.slice (m2).mem.pA (m2).mem.hs.length (m2).mem.pc, .slice (m2).mem.vA (m2).mem.vs.length (m2).mem.vc, .slice (m2).ln.fA (m2).ln.first.length (m2).ln.fc, .slice (m2).ln.lA (m2).ln.logs.length (m2).ln.lc, .map (m2).ln.asks, .slice (m2).sA (m2).steps.length (m2).sc, .int .i64 (m2).crashes] 36).below (Below.alloc (Below.refl _ _) (Nat.le_refl _) _))
 have XG := hide (show BoxC (w2.heap.size + 1) (gotl x ok) w3 by rw [hw3]; exact BoxC.made_at sM #[.int .i64 x.v, .int .u32 x.r, .int .u32 x.f, .bool ok] 99)
 have hs3 : w3.heap.size = w2.heap.size + 1 + 1 := by rw [hw3]; simp
 have hb23 : Below w2.heap.size w2 w3 := by rw [hw3]; exact ab0
 have hB3 : Below w.heap.size w w3 := by rw [hw3]; exact ab0
 have HB3 := hide hB3
 have HR3 := hide (HR2.out.below hb23)
 have oB := Hoff2.out (w.heap.size) (by first | omega | (simp; done) | (simp; omega)) (MachV.off_new HR.out.1 oM)
 have oR := Hoff2.out (w.heap.size + 1) (by first | omega | (simp; done) | (simp; omega)) (MachV.off_new HR.out.1 oM)
 have oG := MachV.off_new HR2.out (C := w2.heap.size + 1) oM
 rw [← hw3]
 clear hw3 hb23 hB3 hcc1 hff1 hb1 hcc2 hff2 hb2 t0 t1 t2 t3 t4 t5 t6 t7 t8 t9 t10 b0 b1 b2 b3 b4 b5 b6 b7 b8 r0 r1 r2 r3 r4 r5 r6 r7 r8 fb fr
 obtain ⟨eb, heb⟩ : ∃ b : Bool, (er != 0) = b := ⟨_, rfl⟩
 rw [heb]
 have Heb := hide heb
 clear heb
 go_cut [] from 34 to 36 (fun wx => StepMid w w2 m2 x ok (.slice (some ⟨bl, off, none⟩) ts.length tc) (.slice sA ss.length sc) wx)
 case first =>
  rcases Her.out with rfl | ⟨hne, em, ex, eo⟩
  ·have eb0 : eb = false := Heb.out.symm
   subst eb0
   have n0 := XM.out.at (j := 0) rfl; have n1 := XM.out.at (j := 1) rfl; have n2 := XM.out.at (j := 2) rfl; have n3 := XM.out.at (j := 3) rfl; have n4 := XM.out.at (j := 4) rfl; have n5 := XM.out.at (j := 5) rfl; have n6 := XM.out.at (j := 6) rfl; have fn := XM.out.2.1
   have b0 := XB.out.at (j := 0) rfl; have b1 := XB.out.at (j := 1) rfl; have b2 := XB.out.at (j := 2) rfl; have b3 := XB.out.at (j := 3) rfl; have b4 := XB.out.at (j := 4) rfl; have b5 := XB.out.at (j := 5) rfl; have b6 := XB.out.at (j := 6) rfl; have fb := XB.out.2.1
   go_wp2_with fail
   obtain ⟨wA, hwA⟩ : ∃ W : World, W = setFrom w3 w.heap.size 0 (machl m2) := ⟨_, rfl⟩
   have hmid : StepMid w w2 m2 x ok (.slice (some ⟨bl, off, none⟩) ts.length tc) (.slice sA ss.length sc) wA := by
    rw [hwA]
    exact ⟨box_head XB.out (by simp [machl]), BoxC.farFrom oM _ _ XR.out, BoxC.farFrom oM _ _ XG.out, MachV.R.fill HR3.out oB XB.out.some (by simp [machl]) 0 (by simp [machl]), below_setFrom (Nat.le_refl _) _ _ HB3.out, by rw [setFrom_size]; omega⟩
   simp only [setFrom, machl, Nat.zero_add, Nat.reduceAdd] at hwA
   rw [← hwA]
   go_meet
   exact hmid
  ·have em := em.symm; subst em; subst ex; subst eo
   have eb1 : eb = true := by rw [← Heb.out]; simpa using hne
   subst eb1
   have g0 := XG.out.at (j := 0) rfl; have g1 := XG.out.at (j := 1) rfl; have g2 := XG.out.at (j := 2) rfl; have g3 := XG.out.at (j := 3) rfl; have fg := XG.out.2.1
   go_wp2_with fail
   obtain ⟨wA, hwA⟩ : ∃ W : World, W = setFrom w3 (w2.heap.size + 1) 0 gotz := ⟨_, rfl⟩
   have hmid : StepMid w w2 M ⟨0, 0, 0⟩ false (.slice (some ⟨bl, off, none⟩) ts.length tc) (.slice sA ss.length sc) wA := by
    rw [hwA]
    exact ⟨BoxC.farFrom oM _ _ XB.out, BoxC.farFrom oM _ _ XR.out, BoxC.fill XG.out rfl, MachV.R.fill (l := gotz) HR3.out oG XG.out.some (Nat.le_refl 4) 0 (Nat.le_refl 4), below_setFrom oM _ _ HB3.out, by rw [setFrom_size]; omega⟩
   simp only [setFrom, gotz, Nat.zero_add, Nat.reduceAdd] at hwA
   rw [← hwA]
   go_meet
   exact hmid
 obtain ⟨ZB, ZR, ZG, hR4, hB4, hs4''⟩ := hcut
 obtain ⟨w4, rfl⟩ : ∃ W : World, W = wc := ⟨_, rfl⟩
 have HR4 := hide hR4
 have hs4' : w2.heap.size + 1 + 1 ≤ w4.heap.size := by omega
 have pb0 := ZB.at (j := 0) rfl
 have pr0 := ZR.at (j := 0) rfl
 have pb1 := ZB.at (j := 1) rfl
 have pr1 := ZR.at (j := 1) rfl
 have pb2 := ZB.at (j := 2) rfl
 have pr2 := ZR.at (j := 2) rfl
 have pb3 := ZB.at (j := 3) rfl
 have pr3 := ZR.at (j := 3) rfl
 have pb4 := ZB.at (j := 4) rfl
 have pr4 := ZR.at (j := 4) rfl
 have pb5 := ZB.at (j := 5) rfl
 have pr5 := ZR.at (j := 5) rfl
 have pb6 := ZB.at (j := 6) rfl
 have pr6 := ZR.at (j := 6) rfl
 have pb7 := ZB.at (j := 7) rfl
 have pr7 := ZR.at (j := 7) rfl
 have pb8 := ZB.at (j := 8) rfl
 have pr8 := ZR.at (j := 8) rfl
 have pg0 := ZG.at (j := 0) rfl
 have pg1 := ZG.at (j := 1) rfl
 have pg2 := ZG.at (j := 2) rfl
 have pg3 := ZG.at (j := 3) rfl
 have pfb := ZB.2.1
 have pfr := ZR.2.1
 clear ZB ZR ZG hR4 XB XR XM XG HR3 HB3 oG hs3
 have n1 : ¬ w.heap.size = w2.heap.size + 1 := by omega
 have n2 : ¬ w.heap.size + 1 = w2.heap.size + 1 := by omega
 have hy0 : w.heap.size < w4.heap.size := by omega
 have hy1 : w.heap.size + 1 < w4.heap.size := by omega
 have hy2 : w2.heap.size + 1 < w4.heap.size := by omega
 go_upto_region 7 with (first
  | (go_at_call 66; refine (Hct.out _ ((HR.out.2.1.2.2.1.below ab0).more (by first | omega | (simp; done) | (simp; omega)))).mono ?_; rintro e w5 ⟨A', tc', rfl, how, hb5⟩; obtain ⟨gs, tc2, hA1, htc, hgs, hrs⟩ := own_some how (by first | omega | (simp only; omega)); injection hA1 with hA1 _ hA2; subst hA1 hA2; have Hcs := hide (own_cells how).1; have hfs := (own_cells how).2; have Hrs := hide hrs; clear how hrs; have hs5 := hb5.size; have qb0 := (hb5.cell (p := ⟨w.heap.size, 0, none⟩) hy0).trans pb0; have qb1 := (hb5.cell (p := ⟨w.heap.size, 1, none⟩) hy0).trans pb1; have qb2 := (hb5.cell (p := ⟨w.heap.size, 2, none⟩) hy0).trans pb2; have qb3 := (hb5.cell (p := ⟨w.heap.size, 3, none⟩) hy0).trans pb3; have qb4 := (hb5.cell (p := ⟨w.heap.size, 4, none⟩) hy0).trans pb4; have qb5 := (hb5.cell (p := ⟨w.heap.size, 5, none⟩) hy0).trans pb5; have qb6 := (hb5.cell (p := ⟨w.heap.size, 6, none⟩) hy0).trans pb6; have qb7 := (hb5.cell (p := ⟨w.heap.size, 7, none⟩) hy0).trans pb7; have qb8 := (hb5.cell (p := ⟨w.heap.size, 8, none⟩) hy0).trans pb8; have qr0 := (hb5.cell (p := ⟨w.heap.size + 1, 0, none⟩) hy1).trans pr0; have qr1 := (hb5.cell (p := ⟨w.heap.size + 1, 1, none⟩) hy1).trans pr1; have qr2 := (hb5.cell (p := ⟨w.heap.size + 1, 2, none⟩) hy1).trans pr2; have qr3 := (hb5.cell (p := ⟨w.heap.size + 1, 3, none⟩) hy1).trans pr3; have qr4 := (hb5.cell (p := ⟨w.heap.size + 1, 4, none⟩) hy1).trans pr4; have qr5 := (hb5.cell (p := ⟨w.heap.size + 1, 5, none⟩) hy1).trans pr5; have qr6 := (hb5.cell (p := ⟨w.heap.size + 1, 6, none⟩) hy1).trans pr6; have qr7 := (hb5.cell (p := ⟨w.heap.size + 1, 7, none⟩) hy1).trans pr7; have qr8 := (hb5.cell (p := ⟨w.heap.size + 1, 8, none⟩) hy1).trans pr8; have qg0 := (hb5.cell (p := ⟨w2.heap.size + 1, 0, none⟩) hy2).trans pg0; have qg1 := (hb5.cell (p := ⟨w2.heap.size + 1, 1, none⟩) hy2).trans pg1; have qg2 := (hb5.cell (p := ⟨w2.heap.size + 1, 2, none⟩) hy2).trans pg2; have qg3 := (hb5.cell (p := ⟨w2.heap.size + 1, 3, none⟩) hy2).trans pg3; have qfb : ∀ o, w5.frozen? ⟨w.heap.size, o, none⟩ = false := (fun o => (hb5.frozen (p := ⟨w.heap.size, o, none⟩) hy0).trans (pfb o)); have qfr : ∀ o, w5.frozen? ⟨w.heap.size + 1, o, none⟩ = false := (fun o => (hb5.frozen (p := ⟨w.heap.size + 1, o, none⟩) hy1).trans (pfr o)); clear pb0 pb1 pb2 pb3 pb4 pb5 pb6 pb7 pb8 pr0 pr1 pr2 pr3 pr4 pr5 pr6 pr7 pr8 pg0 pg1 pg2 pg3 pfb pfr))
 obtain ⟨w6, hw6⟩ : ∃ W : World, W = w5.setCell ⟨w.heap.size, 7, none⟩ (.slice (some ⟨gs, 0, none⟩) ts.length tc') := ⟨_, rfl⟩
 have hs6 : w6.heap.size = w5.heap.size := by rw [hw6]; simp
 have ng0 : ¬ w.heap.size = gs := by omega
 have ng1 : ¬ w.heap.size + 1 = gs := by omega
 have ng2 : ¬ w2.heap.size + 1 = gs := by omega
 have ng3 : ¬ gs = w.heap.size := by omega
 have ng4 : ¬ gs = w.heap.size + 1 := by omega
 have ng5 : ¬ gs = w2.heap.size + 1 := by omega
 have qs0 := Hcs.out (t * 11 + 0) (k.c) ((told_at taskc_len ts t k Hk.out 0 oM).trans rfl)
 have qs1 := Hcs.out (t * 11 + 1) (k.nx) ((told_at taskc_len ts t k Hk.out 1 oM).trans rfl)
 have qs2 := Hcs.out (t * 11 + 2) (.int .i64 k.a.o) ((told_at taskc_len ts t k Hk.out 2 oM).trans rfl)
 have qs3 := Hcs.out (t * 11 + 3) (.int .i64 k.a.l) ((told_at taskc_len ts t k Hk.out 3 oM).trans rfl)
 have qs4 := Hcs.out (t * 11 + 4) (.int .i64 k.a.v) ((told_at taskc_len ts t k Hk.out 4 oM).trans rfl)
 have qs5 := Hcs.out (t * 11 + 5) (.int .u32 k.a.r) ((told_at taskc_len ts t k Hk.out 5 oM).trans rfl)
 have qs6 := Hcs.out (t * 11 + 6) (.int .u32 k.a.f) ((told_at taskc_len ts t k Hk.out 6 oM).trans rfl)
 have qs7 := Hcs.out (t * 11 + 7) (.int .i64 k.a.v2) ((told_at taskc_len ts t k Hk.out 7 oM).trans rfl)
 have qs8 := Hcs.out (t * 11 + 8) (.int .u32 k.a.r2) ((told_at taskc_len ts t k Hk.out 8 oM).trans rfl)
 have qs9 := Hcs.out (t * 11 + 9) (.int .u32 k.a.f2) ((told_at taskc_len ts t k Hk.out 9 oM).trans rfl)
 have qs10 := Hcs.out (t * 11 + 10) (.slice k.A k.m k.cp) ((told_at taskc_len ts t k Hk.out 10 oM).trans rfl)
 have qs0' : w5.cell? ⟨gs, t * 11, none⟩ = some (k.c) := qs0
 have kb0 : w6.cell? ⟨w.heap.size, 0, none⟩ = some (.slice m2.mem.pA m2.mem.hs.length m2.mem.pc) := by rw [hw6]; go_simp
 have kb1 : w6.cell? ⟨w.heap.size, 1, none⟩ = some (.slice m2.mem.vA m2.mem.vs.length m2.mem.vc) := by rw [hw6]; go_simp
 have kb2 : w6.cell? ⟨w.heap.size, 2, none⟩ = some (.slice m2.ln.fA m2.ln.first.length m2.ln.fc) := by rw [hw6]; go_simp
 have kb3 : w6.cell? ⟨w.heap.size, 3, none⟩ = some (.slice m2.ln.lA m2.ln.logs.length m2.ln.lc) := by rw [hw6]; go_simp
 have kb4 : w6.cell? ⟨w.heap.size, 4, none⟩ = some (.map m2.ln.asks) := by rw [hw6]; go_simp
 have kb5 : w6.cell? ⟨w.heap.size, 5, none⟩ = some (.slice m2.sA m2.steps.length m2.sc) := by rw [hw6]; go_simp
 have kb6 : w6.cell? ⟨w.heap.size, 6, none⟩ = some (.int .i64 m2.crashes) := by rw [hw6]; go_simp
 have kb7 : w6.cell? ⟨w.heap.size, 7, none⟩ = some (.slice (some ⟨gs, 0, none⟩) ts.length tc') := by rw [hw6]; go_simp
 have kb8 : w6.cell? ⟨w.heap.size, 8, none⟩ = some (.slice sA ss.length sc) := by rw [hw6]; go_simp
 have kr0 : w6.cell? ⟨w.heap.size + 1, 0, none⟩ = some (.slice none 0 0) := by rw [hw6]; go_simp
 have kr1 : w6.cell? ⟨w.heap.size + 1, 1, none⟩ = some (.slice none 0 0) := by rw [hw6]; go_simp
 have kr2 : w6.cell? ⟨w.heap.size + 1, 2, none⟩ = some (.slice none 0 0) := by rw [hw6]; go_simp
 have kr3 : w6.cell? ⟨w.heap.size + 1, 3, none⟩ = some (.slice none 0 0) := by rw [hw6]; go_simp
 have kr4 : w6.cell? ⟨w.heap.size + 1, 4, none⟩ = some (.map none) := by rw [hw6]; go_simp
 have kr5 : w6.cell? ⟨w.heap.size + 1, 5, none⟩ = some (.slice none 0 0) := by rw [hw6]; go_simp
 have kr6 : w6.cell? ⟨w.heap.size + 1, 6, none⟩ = some (.int .i64 0) := by rw [hw6]; go_simp
 have kr7 : w6.cell? ⟨w.heap.size + 1, 7, none⟩ = some (.slice none 0 0) := by rw [hw6]; go_simp
 have kr8 : w6.cell? ⟨w.heap.size + 1, 8, none⟩ = some (.slice none 0 0) := by rw [hw6]; go_simp
 have kg0 : w6.cell? ⟨w2.heap.size + 1, 0, none⟩ = some (.int .i64 x.v) := by rw [hw6]; go_simp
 have kg1 : w6.cell? ⟨w2.heap.size + 1, 1, none⟩ = some (.int .u32 x.r) := by rw [hw6]; go_simp
 have kg2 : w6.cell? ⟨w2.heap.size + 1, 2, none⟩ = some (.int .u32 x.f) := by rw [hw6]; go_simp
 have kg3 : w6.cell? ⟨w2.heap.size + 1, 3, none⟩ = some (.bool ok) := by rw [hw6]; go_simp
 have ks0 : w6.cell? ⟨gs, t * 11, none⟩ = some (k.c) := by rw [hw6]; go_simp
 have ks1 : w6.cell? ⟨gs, t * 11 + 1, none⟩ = some (k.nx) := by rw [hw6]; go_simp
 have ks2 : w6.cell? ⟨gs, t * 11 + 2, none⟩ = some (.int .i64 k.a.o) := by rw [hw6]; go_simp
 have ks3 : w6.cell? ⟨gs, t * 11 + 3, none⟩ = some (.int .i64 k.a.l) := by rw [hw6]; go_simp
 have ks4 : w6.cell? ⟨gs, t * 11 + 4, none⟩ = some (.int .i64 k.a.v) := by rw [hw6]; go_simp
 have ks5 : w6.cell? ⟨gs, t * 11 + 5, none⟩ = some (.int .u32 k.a.r) := by rw [hw6]; go_simp
 have ks6 : w6.cell? ⟨gs, t * 11 + 6, none⟩ = some (.int .u32 k.a.f) := by rw [hw6]; go_simp
 have ks7 : w6.cell? ⟨gs, t * 11 + 7, none⟩ = some (.int .i64 k.a.v2) := by rw [hw6]; go_simp
 have ks8 : w6.cell? ⟨gs, t * 11 + 8, none⟩ = some (.int .u32 k.a.r2) := by rw [hw6]; go_simp
 have ks9 : w6.cell? ⟨gs, t * 11 + 9, none⟩ = some (.int .u32 k.a.f2) := by rw [hw6]; go_simp
 have ks10 : w6.cell? ⟨gs, t * 11 + 10, none⟩ = some (.slice k.A k.m k.cp) := by rw [hw6]; go_simp
 have kfr : ∀ o, w6.frozen? ⟨w.heap.size + 1, o, none⟩ = false := by intro o; rw [hw6]; go_simp
 have kfs : ∀ o, w6.frozen? ⟨gs, o, none⟩ = false := by intro o; rw [hw6]; go_simp
 have HR6 : Hid (MachV.R w6 m2) := hide (by rw [hw6]; exact MachV.R.set (HR4.out.below hb5) oB (.of qb7) _)
 have Hr6 : Hid (Rd w6 w6.heap.size 11 (some ⟨gs, 0, none⟩) ts.length (ts.flatMap taskc)) := hide (by rw [hw6]; exact Rd.more (Rd.set_off Hrs.out (OffC.at ng3) _) sM)
 have hB6 : Below w.heap.size w w6 := by rw [hw6]; exact (hB4.trans (hb5.mono oM)).setCell (p := ⟨w.heap.size, 7, none⟩) (Nat.le_refl _) _
 have hgl6 : gs < w6.heap.size := cell_lt ks1
 have hs6' : w4.heap.size ≤ w6.heap.size := by omega
 rw [← hw6]
 clear hw6 hs6 hs5 Hcs Hrs hfs qs0' qs0 qs1 qs2 qs3 qs4 qs5 qs6 qs7 qs8 qs9 qs10 qb0 qb1 qb2 qb3 qb4 qb5 qb6 qb7 qb8 qr0 qr1 qr2 qr3 qr4 qr5 qr6 qr7 qr8 qg0 qg1 qg2 qg3 qfb qfr
 have hx0 : w.heap.size < w6.heap.size := by omega
 have hx1 : w.heap.size + 1 < w6.heap.size := by omega
 have hx2 : w2.heap.size + 1 < w6.heap.size := by omega
 refine wp_region_held_drew (S := (fun w' => w'.cell? ⟨w.heap.size, 7, none⟩ = some (.slice (some ⟨gs, 0, none⟩) ts.length tc') ∧ w'.cell? ⟨w2.heap.size + 1, 0, none⟩ = some (.int .i64 x.v) ∧ w'.cell? ⟨w2.heap.size + 1, 1, none⟩ = some (.int .u32 x.r) ∧ w'.cell? ⟨w2.heap.size + 1, 2, none⟩ = some (.int .u32 x.f) ∧ w'.cell? ⟨w2.heap.size + 1, 3, none⟩ = some (.bool ok))) kR (by first | with_reducible exact ⟨kb7, kg0, kg1, kg2, kg3⟩ | exact ⟨by go_simp, by go_simp, by go_simp, by go_simp, by go_simp⟩) (fun hHeld => ?_)
 refine tq1 0 ?_
 refine tq1 1 ?_
 refine tq1 2 ?_
 refine tq1 3 ?_
 refine tq1 4 ?_
 refine tq1 5 ?_
 refine tq1 6 ?_
 refine tq1 7 ?_
 refine tq1 8 ?_
 refine tq1 10 ?_
 refine wE 9 fun K hK => ?_
 go_simp
 go_wp2_with fail
 refine oK hK (by first | with_reducible exact ⟨kb7, kg0, kg1, kg2, kg3⟩ | exact ⟨by go_simp, by go_simp, by go_simp, by go_simp, by go_simp⟩) fun hHeld => ?_
 clear hK K
 refine wE 11 fun K hK => ?_
 go_simp
 (go_at_call 67; refine (Hgive.out m2 x ok _ HE2.out (ab0) (HkR.out.below ab0)).mono ?_; rintro e w7 ⟨k', rfl, hG7, hg7, hok7, hoff7, hb7'⟩; have hb7 : Below _ _ w7 := (by first | with_reducible exact noDrew hb7' | exact hb7'); have hsw7 := (hb7).size; (try simp at hsw7); have HG7 := hide hG7; have Hg7 := hide hg7; have Hok7 := hide hok7; have Hoff7 := hide hoff7; obtain ⟨hsc, hsn⟩ := hok7.sto; unfold StoV at hsc hsn; clear hG7 hg7 hok7 hoff7 hb7'; have vb0 := (hb7.cell (p := ⟨w.heap.size, 0, none⟩) hx0).trans kb0; have vb1 := (hb7.cell (p := ⟨w.heap.size, 1, none⟩) hx0).trans kb1; have vb2 := (hb7.cell (p := ⟨w.heap.size, 2, none⟩) hx0).trans kb2; have vb3 := (hb7.cell (p := ⟨w.heap.size, 3, none⟩) hx0).trans kb3; have vb4 := (hb7.cell (p := ⟨w.heap.size, 4, none⟩) hx0).trans kb4; have vb5 := (hb7.cell (p := ⟨w.heap.size, 5, none⟩) hx0).trans kb5; have vb6 := (hb7.cell (p := ⟨w.heap.size, 6, none⟩) hx0).trans kb6; have vb7 := (hb7.cell (p := ⟨w.heap.size, 7, none⟩) hx0).trans kb7; have vb8 := (hb7.cell (p := ⟨w.heap.size, 8, none⟩) hx0).trans kb8; have vr0 := (hb7.cell (p := ⟨w.heap.size + 1, 0, none⟩) hx1).trans kr0; have vr1 := (hb7.cell (p := ⟨w.heap.size + 1, 1, none⟩) hx1).trans kr1; have vr2 := (hb7.cell (p := ⟨w.heap.size + 1, 2, none⟩) hx1).trans kr2; have vr3 := (hb7.cell (p := ⟨w.heap.size + 1, 3, none⟩) hx1).trans kr3; have vr4 := (hb7.cell (p := ⟨w.heap.size + 1, 4, none⟩) hx1).trans kr4; have vr5 := (hb7.cell (p := ⟨w.heap.size + 1, 5, none⟩) hx1).trans kr5; have vr6 := (hb7.cell (p := ⟨w.heap.size + 1, 6, none⟩) hx1).trans kr6; have vr7 := (hb7.cell (p := ⟨w.heap.size + 1, 7, none⟩) hx1).trans kr7; have vr8 := (hb7.cell (p := ⟨w.heap.size + 1, 8, none⟩) hx1).trans kr8; have vg0 := (hb7.cell (p := ⟨w2.heap.size + 1, 0, none⟩) hx2).trans kg0; have vg1 := (hb7.cell (p := ⟨w2.heap.size + 1, 1, none⟩) hx2).trans kg1; have vg2 := (hb7.cell (p := ⟨w2.heap.size + 1, 2, none⟩) hx2).trans kg2; have vg3 := (hb7.cell (p := ⟨w2.heap.size + 1, 3, none⟩) hx2).trans kg3; have vs0 := (hb7.cell (p := ⟨gs, t * 11, none⟩) hgl6).trans ks0; have vs1 := (hb7.cell (p := ⟨gs, t * 11 + 1, none⟩) hgl6).trans ks1; have vs2 := (hb7.cell (p := ⟨gs, t * 11 + 2, none⟩) hgl6).trans ks2; have vs3 := (hb7.cell (p := ⟨gs, t * 11 + 3, none⟩) hgl6).trans ks3; have vs4 := (hb7.cell (p := ⟨gs, t * 11 + 4, none⟩) hgl6).trans ks4; have vs5 := (hb7.cell (p := ⟨gs, t * 11 + 5, none⟩) hgl6).trans ks5; have vs6 := (hb7.cell (p := ⟨gs, t * 11 + 6, none⟩) hgl6).trans ks6; have vs7 := (hb7.cell (p := ⟨gs, t * 11 + 7, none⟩) hgl6).trans ks7; have vs8 := (hb7.cell (p := ⟨gs, t * 11 + 8, none⟩) hgl6).trans ks8; have vs9 := (hb7.cell (p := ⟨gs, t * 11 + 9, none⟩) hgl6).trans ks9; have vs10 := (hb7.cell (p := ⟨gs, t * 11 + 10, none⟩) hgl6).trans ks10; have vfr : ∀ o, w7.frozen? ⟨w.heap.size + 1, o, none⟩ = false := (fun o => (hb7.frozen (p := ⟨w.heap.size + 1, o, none⟩) hx1).trans (kfr o)); have vfs : ∀ o, w7.frozen? ⟨gs, o, none⟩ = false := (fun o => (hb7.frozen (p := ⟨gs, o, none⟩) hgl6).trans (kfs o)); have hs7' : w6.heap.size ≤ w7.heap.size := hb7.size)
 go_wp2_with fail
 refine oK hK (by first | with_reducible exact ⟨kb7, kg0, kg1, kg2, kg3⟩ | exact ⟨by go_simp, by go_simp, by go_simp, by go_simp, by go_simp⟩) fun hHeld => ?_
 clear hK K
 refine tq1 12 ?_
 refine wE 13 fun K hK => ?_
 go_simp
 go_wp2_with fail
 refine oK hK (by first | with_reducible exact ⟨kb7, kg0, kg1, kg2, kg3⟩ | exact ⟨by go_simp, by go_simp, by go_simp, by go_simp, by go_simp⟩) fun hHeld => ?_
 clear hK K
 refine wD ?_
 all_goals go_wp2_with fail
 all_goals have hB7 : Below w.heap.size w w7 := hB6.trans (hb7.mono oM)
 all_goals have hgw : w.heap.size ≤ gs := by omega
 all_goals obtain ⟨w8, hw8⟩ : ∃ W : World, W = (((((((((((w7.setCell ⟨gs, t * 11, none⟩ (k'.c)).setCell ⟨gs, t * 11 + 1, none⟩ (k'.nx)).setCell ⟨gs, t * 11 + 2, none⟩ (.int .i64 k'.a.o)).setCell ⟨gs, t * 11 + 3, none⟩ (.int .i64 k'.a.l)).setCell ⟨gs, t * 11 + 4, none⟩ (.int .i64 k'.a.v)).setCell ⟨gs, t * 11 + 5, none⟩ (.int .u32 k'.a.r)).setCell ⟨gs, t * 11 + 6, none⟩ (.int .u32 k'.a.f)).setCell ⟨gs, t * 11 + 7, none⟩ (.int .i64 k'.a.v2)).setCell ⟨gs, t * 11 + 8, none⟩ (.int .u32 k'.a.r2)).setCell ⟨gs, t * 11 + 9, none⟩ (.int .u32 k'.a.f2)).setCell ⟨gs, t * 11 + 10, none⟩ (.slice k'.A k'.m k'.cp)) := ⟨_, rfl⟩
 all_goals have hB8 : Below w.heap.size w w8 := by rw [hw8]; exact (Below.setCell (Below.setCell (Below.setCell (Below.setCell (Below.setCell (Below.setCell (Below.setCell (Below.setCell (Below.setCell (Below.setCell (Below.setCell hB7 (by show w.heap.size ≤ gs; exact hgw) (k'.c)) (by show w.heap.size ≤ gs; exact hgw) (k'.nx)) (by show w.heap.size ≤ gs; exact hgw) (.int .i64 k'.a.o)) (by show w.heap.size ≤ gs; exact hgw) (.int .i64 k'.a.l)) (by show w.heap.size ≤ gs; exact hgw) (.int .i64 k'.a.v)) (by show w.heap.size ≤ gs; exact hgw) (.int .u32 k'.a.r)) (by show w.heap.size ≤ gs; exact hgw) (.int .u32 k'.a.f)) (by show w.heap.size ≤ gs; exact hgw) (.int .i64 k'.a.v2)) (by show w.heap.size ≤ gs; exact hgw) (.int .u32 k'.a.r2)) (by show w.heap.size ≤ gs; exact hgw) (.int .u32 k'.a.f2)) (by show w.heap.size ≤ gs; exact hgw) (.slice k'.A k'.m k'.cp))
 all_goals have hs8 : w8.heap.size = w7.heap.size := by rw [hw8]; simp
 all_goals have og : MachV.off gs m2 := MachV.off_new HR4.out oM
 all_goals have hM8 : MachV.R w8 m2 := by rw [hw8]; exact (MachV.R.set (MachV.R.set (MachV.R.set (MachV.R.set (MachV.R.set (MachV.R.set (MachV.R.set (MachV.R.set (MachV.R.set (MachV.R.set (MachV.R.set (HR6.out.below hb7) og (.of vs0) (k'.c)) og (.set (.of vs1) _) (k'.nx)) og (.set (.set (.of vs2) _) _) (.int .i64 k'.a.o)) og (.set (.set (.set (.of vs3) _) _) _) (.int .i64 k'.a.l)) og (.set (.set (.set (.set (.of vs4) _) _) _) _) (.int .i64 k'.a.v)) og (.set (.set (.set (.set (.set (.of vs5) _) _) _) _) _) (.int .u32 k'.a.r)) og (.set (.set (.set (.set (.set (.set (.of vs6) _) _) _) _) _) _) (.int .u32 k'.a.f)) og (.set (.set (.set (.set (.set (.set (.set (.of vs7) _) _) _) _) _) _) _) (.int .i64 k'.a.v2)) og (.set (.set (.set (.set (.set (.set (.set (.set (.of vs8) _) _) _) _) _) _) _) _) (.int .u32 k'.a.r2)) og (.set (.set (.set (.set (.set (.set (.set (.set (.set (.of vs9) _) _) _) _) _) _) _) _) _) (.int .u32 k'.a.f2)) og (.set (.set (.set (.set (.set (.set (.set (.set (.set (.set (.of vs10) _) _) _) _) _) _) _) _) _) _) (.slice k'.A k'.m k'.cp))
 all_goals have hr8 : Rd w8 w8.heap.size 11 (some ⟨gs, 0, none⟩) ts.length ((ts.set t k').flatMap taskc) := by
            have h := Rd.setCells (taskc k') (i := t * 11) (Hr6.out.below hb7) (by rw [Hr6.out.1, taskc_len]; omega)
            rw [flatMap_put taskc_len ts t k' ht, Nat.zero_add] at h
            have e : setCells w7 gs (t * 11) (taskc k') = w8 := by rw [hw8]; rfl
            rw [e] at h
            exact Rd.more h oM
 all_goals have hoffk : ∀ C, w.heap.size ≤ C → OffC C k.m k.A := fun C hC => by
            obtain ⟨_, _, hr⟩ := HkR.out
            exact OffC.new hr hC
 all_goals have ogk : OffC gs k'.m k'.A := Hoff7.out gs (by first | omega | (simp; done) | (simp; omega)) (hoffk gs hgw)
 all_goals have hg8 : GotsR w8 k'.A k'.m k'.cp (k'.l.flatMap gotc) := by rw [hw8]; exact (GotsR.set' (GotsR.set' (GotsR.set' (GotsR.set' (GotsR.set' (GotsR.set' (GotsR.set' (GotsR.set' (GotsR.set' (GotsR.set' (GotsR.set' Hg7.out ogk (k'.c)) ogk (k'.nx)) ogk (.int .i64 k'.a.o)) ogk (.int .i64 k'.a.l)) ogk (.int .i64 k'.a.v)) ogk (.int .u32 k'.a.r)) ogk (.int .u32 k'.a.f)) ogk (.int .i64 k'.a.v2)) ogk (.int .u32 k'.a.r2)) ogk (.int .u32 k'.a.f2)) ogk (.slice k'.A k'.m k'.cp))
 all_goals have hV8 := HR.out.below hB8
 all_goals have hR8 : WorldV.R w8 (⟨m2, some ⟨gs, 0, none⟩, tc', ts.set t k', sA, sc, ss⟩ : WorldV) := ⟨hM8, ⟨(by show (ts.set t k').length ≤ tc'; rw [List.length_set]; exact htc), (fun e => by cases e), (by show Rd w8 w8.heap.size 11 (some ⟨gs, 0, none⟩) (ts.set t k').length _; rw [List.length_set]; exact hr8), fun y hy => (by
            rcases List.mem_or_eq_of_mem_set hy with hy | rfl
            ·exact hV8.2.1.2.2.2 y hy
            ·exact ⟨hg8, Hok7.out⟩)⟩, hV8.2.2⟩
 all_goals have hVo := WorldV.off_new HR.out (C := w.heap.size + 1) oM
 all_goals have oV : WorldV.off (w.heap.size + 1) (⟨m2, some ⟨gs, 0, none⟩, tc', ts.set t k', sA, sc, ss⟩ : WorldV) := ⟨oR, OffC.at ng4, hVo.2.2.1, fun y hy => (by
            rcases List.mem_or_eq_of_mem_set hy with hy | rfl
            ·exact hVo.2.2.2 y hy
            ·exact Hoff7.out _ (by first | omega | (simp; done) | (simp; omega)) (hoffk _ oM))⟩
 all_goals have z0 : w8.cell? ⟨w.heap.size + 1, 0, none⟩ = some (.slice none 0 0) := by rw [hw8]; go_simp
 all_goals have z1 : w8.cell? ⟨w.heap.size + 1, 1, none⟩ = some (.slice none 0 0) := by rw [hw8]; go_simp
 all_goals have z2 : w8.cell? ⟨w.heap.size + 1, 2, none⟩ = some (.slice none 0 0) := by rw [hw8]; go_simp
 all_goals have z3 : w8.cell? ⟨w.heap.size + 1, 3, none⟩ = some (.slice none 0 0) := by rw [hw8]; go_simp
 all_goals have z4 : w8.cell? ⟨w.heap.size + 1, 4, none⟩ = some (.map none) := by rw [hw8]; go_simp
 all_goals have z5 : w8.cell? ⟨w.heap.size + 1, 5, none⟩ = some (.slice none 0 0) := by rw [hw8]; go_simp
 all_goals have z6 : w8.cell? ⟨w.heap.size + 1, 6, none⟩ = some (.int .i64 0) := by rw [hw8]; go_simp
 all_goals have z7 : w8.cell? ⟨w.heap.size + 1, 7, none⟩ = some (.slice none 0 0) := by rw [hw8]; go_simp
 all_goals have z8 : w8.cell? ⟨w.heap.size + 1, 8, none⟩ = some (.slice none 0 0) := by rw [hw8]; go_simp
 all_goals have HZ := hide (WorldV.R.set (WorldV.R.set (WorldV.R.set (WorldV.R.set (WorldV.R.set (WorldV.R.set (WorldV.R.set (WorldV.R.set (WorldV.R.set hR8 oV (.of z0) (.slice m2.mem.pA m2.mem.hs.length m2.mem.pc)) oV (.set (.of z1) _) (.slice m2.mem.vA m2.mem.vs.length m2.mem.vc)) oV (.set (.set (.of z2) _) _) (.slice m2.ln.fA m2.ln.first.length m2.ln.fc)) oV (.set (.set (.set (.of z3) _) _) _) (.slice m2.ln.lA m2.ln.logs.length m2.ln.lc)) oV (.set (.set (.set (.set (.of z4) _) _) _) _) (.map m2.ln.asks)) oV (.set (.set (.set (.set (.set (.of z5) _) _) _) _) _) (.slice m2.sA m2.steps.length m2.sc)) oV (.set (.set (.set (.set (.set (.set (.of z6) _) _) _) _) _) _) (.int .i64 m2.crashes)) oV (.set (.set (.set (.set (.set (.set (.set (.of z7) _) _) _) _) _) _) _) (.slice (some ⟨gs, 0, none⟩) ts.length tc')) oV (.set (.set (.set (.set (.set (.set (.set (.set (.of z8) _) _) _) _) _) _) _) _) (.slice sA ss.length sc))
 all_goals have HB := hide (Below.setCell (Below.setCell (Below.setCell (Below.setCell (Below.setCell (Below.setCell (Below.setCell (Below.setCell (Below.setCell hB8 (p := ⟨w.heap.size + 1, 0, none⟩) (by show w.heap.size ≤ w.heap.size + 1; omega) (.slice m2.mem.pA m2.mem.hs.length m2.mem.pc)) (p := ⟨w.heap.size + 1, 1, none⟩) (by show w.heap.size ≤ w.heap.size + 1; omega) (.slice m2.mem.vA m2.mem.vs.length m2.mem.vc)) (p := ⟨w.heap.size + 1, 2, none⟩) (by show w.heap.size ≤ w.heap.size + 1; omega) (.slice m2.ln.fA m2.ln.first.length m2.ln.fc)) (p := ⟨w.heap.size + 1, 3, none⟩) (by show w.heap.size ≤ w.heap.size + 1; omega) (.slice m2.ln.lA m2.ln.logs.length m2.ln.lc)) (p := ⟨w.heap.size + 1, 4, none⟩) (by show w.heap.size ≤ w.heap.size + 1; omega) (.map m2.ln.asks)) (p := ⟨w.heap.size + 1, 5, none⟩) (by show w.heap.size ≤ w.heap.size + 1; omega) (.slice m2.sA m2.steps.length m2.sc)) (p := ⟨w.heap.size + 1, 6, none⟩) (by show w.heap.size ≤ w.heap.size + 1; omega) (.int .i64 m2.crashes)) (p := ⟨w.heap.size + 1, 7, none⟩) (by show w.heap.size ≤ w.heap.size + 1; omega) (.slice (some ⟨gs, 0, none⟩) ts.length tc')) (p := ⟨w.heap.size + 1, 8, none⟩) (by show w.heap.size ≤ w.heap.size + 1; omega) (.slice sA ss.length sc))
 all_goals have hOf : Hid (∀ C, C < w.heap.size → WorldV.off C ⟨M, some ⟨bl, off, none⟩, tc, ts, sA, sc, ss⟩ → WorldV.off C (⟨m2, some ⟨gs, 0, none⟩, tc', ts.set t k', sA, sc, ss⟩ : WorldV)) := hide (fun C hC h => ⟨Hoff2.out C (by first | omega | (simp; done) | (simp; omega)) h.1, OffC.at oM, h.2.2.1, fun y hy => (by
            rcases List.mem_or_eq_of_mem_set hy with hy | rfl
            ·exact h.2.2.2 y hy
            ·exact Hoff7.out C (by first | omega | (simp; done) | (simp; omega)) (h.2.2.2 k (List.mem_of_getElem? Hk.out)))⟩)
 all_goals have hLt : (ts.set t k').length = ts.length := List.length_set
 all_goals rw [← hw8]
 all_goals clear hw8 hR8 hr8 hg8 hM8 hV8 oV hVo
 all_goals refine bodyPost_ret (v := .agg #[.slice m2.mem.pA m2.mem.hs.length m2.mem.pc, .slice m2.mem.vA m2.mem.vs.length m2.mem.vc, .slice m2.ln.fA m2.ln.first.length m2.ln.fc, .slice m2.ln.lA m2.ln.logs.length m2.ln.lc, .map m2.ln.asks, .slice m2.sA m2.steps.length m2.sc, .int .i64 m2.crashes, .slice (some ⟨gs, 0, none⟩) ts.length tc', .slice sA ss.length sc]) (by simp [results, Tryz.results30, go_sem, z0, z1, z2, z3, z4, z5, z6, z7, z8]; (try go_simp)) rfl ⟨m2, x, ok, k', gs, tc', (by simp only [woV, maV, hLt]), HE2.out, HG7.out, ?_, hOf.out, ?_⟩
 all_goals first
  | with_reducible exact HZ.out
  | with_reducible exact HZ.out.drew
  | with_reducible exact HB.out
  | with_reducible exact HB.out.drew
end Go.Proofs.YtnnmenmifphadaaGreatDoor
