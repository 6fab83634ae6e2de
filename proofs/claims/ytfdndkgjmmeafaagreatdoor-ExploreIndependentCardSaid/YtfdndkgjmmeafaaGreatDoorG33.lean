/- Package task: the world's step. -/
import Derived.Test.YtfdndkgjmmeafaaGreatDoorG27
import Derived.Test.YtfdndkgjmmeafaaGreatDoorG32
namespace Go.Proofs.YtfdndkgjmmeafaaGreatDoor
set_option linter.unusedSimpArgs false
set_option linter.unusedVariables false
open Go.RowKit Go.Maps
/-- A value that a store stores whole. -/
def StoV (v : Value) : Prop := ∀ (P : Program) (w : World) (a : Addr) (m : Mode), (store a v m).run P w = stored P w a v m
theorem TaskV.ok.sto {k : TaskV} (h : k.ok) : StoV k.c ∧ StoV k.nx := by
  obtain ⟨⟨T, p, h1⟩, h2⟩ := h
  refine ⟨by rw [h1]; exact fun P w a m => run_store P w a _ m rfl, ?_⟩
  rcases h2 with ⟨T2, p2, h2⟩ | h2
  · rw [h2]; exact fun P w a m => run_store P w a _ m rfl
  · rw [h2]; exact fun P w a m => run_store P w a _ m rfl
set_option maxHeartbeats 8000000 in
set_option maxRecDepth 100000 in
theorem world_step (V : WorldV) (t : Nat) (ch : Int) (k : TaskV) (w : World) (d : Bool) (E : MachV → W3 → Bool → Prop) (G : W3 → Bool → TaskV → Prop) (hR : V.R w) (hk : V.ts[t]? = some k) (hn : V.ts.length ≤ 1000)
    (hact : ∀ W, Calls Tryz.prog 68 #[(.agg #[(k).c, (k).nx, .int .i64 ((k).a).o, .int .i64 ((k).a).l, .int .i64 ((k).a).v, .int .u32 ((k).a).r, .int .u32 ((k).a).f, .int .i64 ((k).a).v2, .int .u32 ((k).a).r2, .int .u32 ((k).a).f2, .slice (k).A (k).m (k).cp])] W fun e w' => e = .returned (.tuple #[.agg #[.int .i64 (k.a).o, .int .i64 (k.a).l, .int .i64 (k.a).v, .int .u32 (k.a).r, .int .u32 (k.a).f, .int .i64 (k.a).v2, .int .u32 (k.a).r2, .int .u32 (k.a).f2], .bool d]) ∧ Below W.heap.size W w')
    (hdo : ∀ W, V.M.R W → Calls Tryz.prog 108 #[.agg #[.slice (V.M).mem.pA (V.M).mem.hs.length (V.M).mem.pc, .slice (V.M).mem.vA (V.M).mem.vs.length (V.M).mem.vc, .slice (V.M).ln.fA (V.M).ln.first.length (V.M).ln.fc, .slice (V.M).ln.lA (V.M).ln.logs.length (V.M).ln.lc, .map (V.M).ln.asks, .slice (V.M).sA (V.M).steps.length (V.M).sc, .int .i64 (V.M).crashes], .int .i64 ((t : Int) + 1), .agg #[.int .i64 (k.a).o, .int .i64 (k.a).l, .int .i64 (k.a).v, .int .u32 (k.a).r, .int .u32 (k.a).f, .int .i64 (k.a).v2, .int .u32 (k.a).r2, .int .u32 (k.a).f2], .int .i64 ch] W fun e w' => ∃ (m2 : MachV) (x : W3) (ok : Bool), e = .returned (.tuple #[.agg #[.slice (m2).mem.pA (m2).mem.hs.length (m2).mem.pc, .slice (m2).mem.vA (m2).mem.vs.length (m2).mem.vc, .slice (m2).ln.fA (m2).ln.first.length (m2).ln.fc, .slice (m2).ln.lA (m2).ln.logs.length (m2).ln.lc, .map (m2).ln.asks, .slice (m2).sA (m2).steps.length (m2).sc, .int .i64 (m2).crashes], (.agg #[.int .i64 (x).v, .int .u32 (x).r, .int .u32 (x).f, .bool ok]), .int .i64 0]) ∧ E m2 x ok ∧ m2.R w' ∧ (∀ C, C < W.heap.size → V.M.off C → m2.off C) ∧ Below W.heap.size W w')
    (hgive : ∀ (m2 : MachV) (x : W3) (ok : Bool) (W : World), E m2 x ok → Below w.heap.size w W → GotsR W k.A k.m k.cp (k.l.flatMap gotc) → Calls Tryz.prog 110 #[(.agg #[(k).c, (k).nx, .int .i64 ((k).a).o, .int .i64 ((k).a).l, .int .i64 ((k).a).v, .int .u32 ((k).a).r, .int .u32 ((k).a).f, .int .i64 ((k).a).v2, .int .u32 ((k).a).r2, .int .u32 ((k).a).f2, .slice (k).A (k).m (k).cp]), (.agg #[.int .i64 (x).v, .int .u32 (x).r, .int .u32 (x).f, .bool ok])] W fun e w' => ∃ k' : TaskV, e = .returned (.agg #[(k').c, (k').nx, .int .i64 ((k').a).o, .int .i64 ((k').a).l, .int .i64 ((k').a).v, .int .u32 ((k').a).r, .int .u32 ((k').a).f, .int .i64 ((k').a).v2, .int .u32 ((k').a).r2, .int .u32 ((k').a).f2, .slice (k').A (k').m (k').cp]) ∧ G x ok k' ∧ GotsR w' k'.A k'.m k'.cp (k'.l.flatMap gotc) ∧ k'.ok ∧ (∀ C, C < W.heap.size → OffC C k.m k.A → OffC C k'.m k'.A) ∧ Below W.heap.size W w') :
    Calls Tryz.prog 79 #[(.agg #[.slice ((V).M).mem.pA ((V).M).mem.hs.length ((V).M).mem.pc, .slice ((V).M).mem.vA ((V).M).mem.vs.length ((V).M).mem.vc, .slice ((V).M).ln.fA ((V).M).ln.first.length ((V).M).ln.fc, .slice ((V).M).ln.lA ((V).M).ln.logs.length ((V).M).ln.lc, .map ((V).M).ln.asks, .slice ((V).M).sA ((V).M).steps.length ((V).M).sc, .int .i64 ((V).M).crashes, .slice (V).tA (V).ts.length (V).tc, .slice (V).sA (V).ss.length (V).sc]), .int .i64 ((t : Int) + 1), .int .i64 ch] w fun e w' => ∃ (m2 : MachV) (x : W3) (ok : Bool) (k' : TaskV) (gs tc' : Nat), e = .returned (.agg #[.slice (((⟨m2, some ⟨gs, 0, none⟩, tc', V.ts.set t k', V.sA, V.sc, V.ss⟩ : WorldV)).M).mem.pA (((⟨m2, some ⟨gs, 0, none⟩, tc', V.ts.set t k', V.sA, V.sc, V.ss⟩ : WorldV)).M).mem.hs.length (((⟨m2, some ⟨gs, 0, none⟩, tc', V.ts.set t k', V.sA, V.sc, V.ss⟩ : WorldV)).M).mem.pc, .slice (((⟨m2, some ⟨gs, 0, none⟩, tc', V.ts.set t k', V.sA, V.sc, V.ss⟩ : WorldV)).M).mem.vA (((⟨m2, some ⟨gs, 0, none⟩, tc', V.ts.set t k', V.sA, V.sc, V.ss⟩ : WorldV)).M).mem.vs.length (((⟨m2, some ⟨gs, 0, none⟩, tc', V.ts.set t k', V.sA, V.sc, V.ss⟩ : WorldV)).M).mem.vc, .slice (((⟨m2, some ⟨gs, 0, none⟩, tc', V.ts.set t k', V.sA, V.sc, V.ss⟩ : WorldV)).M).ln.fA (((⟨m2, some ⟨gs, 0, none⟩, tc', V.ts.set t k', V.sA, V.sc, V.ss⟩ : WorldV)).M).ln.first.length (((⟨m2, some ⟨gs, 0, none⟩, tc', V.ts.set t k', V.sA, V.sc, V.ss⟩ : WorldV)).M).ln.fc, .slice (((⟨m2, some ⟨gs, 0, none⟩, tc', V.ts.set t k', V.sA, V.sc, V.ss⟩ : WorldV)).M).ln.lA (((⟨m2, some ⟨gs, 0, none⟩, tc', V.ts.set t k', V.sA, V.sc, V.ss⟩ : WorldV)).M).ln.logs.length (((⟨m2, some ⟨gs, 0, none⟩, tc', V.ts.set t k', V.sA, V.sc, V.ss⟩ : WorldV)).M).ln.lc, .map (((⟨m2, some ⟨gs, 0, none⟩, tc', V.ts.set t k', V.sA, V.sc, V.ss⟩ : WorldV)).M).ln.asks, .slice (((⟨m2, some ⟨gs, 0, none⟩, tc', V.ts.set t k', V.sA, V.sc, V.ss⟩ : WorldV)).M).sA (((⟨m2, some ⟨gs, 0, none⟩, tc', V.ts.set t k', V.sA, V.sc, V.ss⟩ : WorldV)).M).steps.length (((⟨m2, some ⟨gs, 0, none⟩, tc', V.ts.set t k', V.sA, V.sc, V.ss⟩ : WorldV)).M).sc, .int .i64 (((⟨m2, some ⟨gs, 0, none⟩, tc', V.ts.set t k', V.sA, V.sc, V.ss⟩ : WorldV)).M).crashes, .slice ((⟨m2, some ⟨gs, 0, none⟩, tc', V.ts.set t k', V.sA, V.sc, V.ss⟩ : WorldV)).tA ((⟨m2, some ⟨gs, 0, none⟩, tc', V.ts.set t k', V.sA, V.sc, V.ss⟩ : WorldV)).ts.length ((⟨m2, some ⟨gs, 0, none⟩, tc', V.ts.set t k', V.sA, V.sc, V.ss⟩ : WorldV)).tc, .slice ((⟨m2, some ⟨gs, 0, none⟩, tc', V.ts.set t k', V.sA, V.sc, V.ss⟩ : WorldV)).sA ((⟨m2, some ⟨gs, 0, none⟩, tc', V.ts.set t k', V.sA, V.sc, V.ss⟩ : WorldV)).ss.length ((⟨m2, some ⟨gs, 0, none⟩, tc', V.ts.set t k', V.sA, V.sc, V.ss⟩ : WorldV)).sc]) ∧ E m2 x ok ∧ G x ok k' ∧ WorldV.R w' ⟨m2, some ⟨gs, 0, none⟩, tc', V.ts.set t k', V.sA, V.sc, V.ss⟩ ∧ (∀ C, C < w.heap.size → V.off C → WorldV.off C ⟨m2, some ⟨gs, 0, none⟩, tc', V.ts.set t k', V.sA, V.sc, V.ss⟩) ∧ Below w.heap.size w w' := by
  have ht : t < V.ts.length := (List.getElem?_eq_some_iff.1 hk).1
  obtain ⟨bl, off, e, hbl, hcl⟩ := Rd.elem hR.2.1.2.2.1 taskc_len ht hk
  have hkR := hR.2.1.2.2.2 k (List.mem_of_getElem? hk)
  have hone := ones_tasks V.ts (fun y hy => (hR.2.1.2.2.2 y hy).2)
  have hct := fun W (h : Rd W W.heap.size 11 V.tA V.ts.length (V.ts.flatMap taskc)) => clone_T V.tA V.ts.length V.tc (V.ts.flatMap taskc) W h hR.2.1.2.1 hone (by omega)
  have Hct := hide hct
  have Hact := hide hact
  have Hdo := hide hdo
  have Hgive := hide hgive
  have HR := hide hR
  have Hk := hide hk
  have HkR := hide hkR.1
  obtain ⟨M, tA, tc, ts, sA, sc, ss⟩ := V
  simp only at e ht hn
  subst e
  (try simp only at Hct)
  (try simp only at Hdo)
  have h0 : (0 : Int) ≤ (t : Int) := by omega
  have h1 : (t : Int) < (ts.length : Int) := by omega
  have hw1 : IntKind.i64.wrap ((t : Int) + 1 - 1) = (t : Int) := by rw [show (t : Int) + 1 - 1 = (t : Int) by omega]; exact IntWalk.i64_in _ (by omega)
  have hw2 : IntKind.i64.wrap (t : Int) = (t : Int) := IntWalk.i64_in _ (by omega)
  have hz : bl < w.heap.size + 1 := by omega
  have hz' : bl < w.heap.size + 1 + 1 := by omega
  have t0 : w.cell? ⟨bl, off + t * 11, none⟩ = some (k.c) := hcl 0 _ rfl
  have t1 : w.cell? ⟨bl, off + t * 11 + 1, none⟩ = some (k.nx) := hcl 1 _ rfl
  have t2 : w.cell? ⟨bl, off + t * 11 + 2, none⟩ = some (.int .i64 k.a.o) := hcl 2 _ rfl
  have t3 : w.cell? ⟨bl, off + t * 11 + 3, none⟩ = some (.int .i64 k.a.l) := hcl 3 _ rfl
  have t4 : w.cell? ⟨bl, off + t * 11 + 4, none⟩ = some (.int .i64 k.a.v) := hcl 4 _ rfl
  have t5 : w.cell? ⟨bl, off + t * 11 + 5, none⟩ = some (.int .u32 k.a.r) := hcl 5 _ rfl
  have t6 : w.cell? ⟨bl, off + t * 11 + 6, none⟩ = some (.int .u32 k.a.f) := hcl 6 _ rfl
  have t7 : w.cell? ⟨bl, off + t * 11 + 7, none⟩ = some (.int .i64 k.a.v2) := hcl 7 _ rfl
  have t8 : w.cell? ⟨bl, off + t * 11 + 8, none⟩ = some (.int .u32 k.a.r2) := hcl 8 _ rfl
  have t9 : w.cell? ⟨bl, off + t * 11 + 9, none⟩ = some (.int .u32 k.a.f2) := hcl 9 _ rfl
  have t10 : w.cell? ⟨bl, off + t * 11 + 10, none⟩ = some (.slice k.A k.m k.cp) := hcl 10 _ rfl
  clear hR hk hkR hone hct hact hdo hgive hcl
  go_enter Tryz.func79, Tryz.ntmps79
  go_upto_region 6 with (first
    | (go_at_call 68; refine (Hact.out _).mono ?_; rintro e w1 ⟨rfl, hb1⟩; obtain ⟨hcc1, hff1⟩ := bcell hb1; have hs1 := hb1.size; (try simp at hs1); have hz10 : w.heap.size < w1.heap.size := (by omega); have hz11 : w.heap.size + 1 < w1.heap.size := (by omega))
    | (go_at_call 108; refine (Hdo.out _ (HR.out.1.below (by repeat' (first | with_reducible exact Below.refl _ _ | with_reducible assumption | with_reducible refine Below.alloc ?_ ?_ _ | with_reducible refine Below.setCell ?_ ?_ _ | with_reducible refine Below.drew ?_ | with_reducible refine below_drewN ?_ _ | with_reducible refine Below.trans ?_ (Below.mono (by with_reducible assumption) ?_) | omega | (simp <;> omega))))).mono ?_; rintro e w2 ⟨m2, x, ok, rfl, hE2, hR2, hoff2, hb2⟩; obtain ⟨hcc2, hff2⟩ := bcell hb2; have hs2 := hb2.size; (try simp at hs2); have hz20 : w.heap.size < w2.heap.size := (by omega); have hz21 : w.heap.size + 1 < w2.heap.size := (by omega); have HE2 := hide hE2; have HR2 := hide hR2; have Hoff2 := hide hoff2; clear hE2 hR2 hoff2))
  have ob0 : w2.cell? ⟨w.heap.size, 0, none⟩ = some (.slice M.mem.pA M.mem.hs.length M.mem.pc) := by go_simp
  have ob1 : w2.cell? ⟨w.heap.size, 1, none⟩ = some (.slice M.mem.vA M.mem.vs.length M.mem.vc) := by go_simp
  have ob2 : w2.cell? ⟨w.heap.size, 2, none⟩ = some (.slice M.ln.fA M.ln.first.length M.ln.fc) := by go_simp
  have ob3 : w2.cell? ⟨w.heap.size, 3, none⟩ = some (.slice M.ln.lA M.ln.logs.length M.ln.lc) := by go_simp
  have ob4 : w2.cell? ⟨w.heap.size, 4, none⟩ = some (.map M.ln.asks) := by go_simp
  have ob5 : w2.cell? ⟨w.heap.size, 5, none⟩ = some (.slice M.sA M.steps.length M.sc) := by go_simp
  have ob6 : w2.cell? ⟨w.heap.size, 6, none⟩ = some (.int .i64 M.crashes) := by go_simp
  have ob7 : w2.cell? ⟨w.heap.size, 7, none⟩ = some (.slice (some ⟨bl, off, none⟩) ts.length tc) := by go_simp
  have ob8 : w2.cell? ⟨w.heap.size, 8, none⟩ = some (.slice sA ss.length sc) := by go_simp
  have or0 : w2.cell? ⟨w.heap.size + 1, 0, none⟩ = some (.slice none 0 0) := by go_simp
  have or1 : w2.cell? ⟨w.heap.size + 1, 1, none⟩ = some (.slice none 0 0) := by go_simp
  have or2 : w2.cell? ⟨w.heap.size + 1, 2, none⟩ = some (.slice none 0 0) := by go_simp
  have or3 : w2.cell? ⟨w.heap.size + 1, 3, none⟩ = some (.slice none 0 0) := by go_simp
  have or4 : w2.cell? ⟨w.heap.size + 1, 4, none⟩ = some (.map none) := by go_simp
  have or5 : w2.cell? ⟨w.heap.size + 1, 5, none⟩ = some (.slice none 0 0) := by go_simp
  have or6 : w2.cell? ⟨w.heap.size + 1, 6, none⟩ = some (.int .i64 0) := by go_simp
  have or7 : w2.cell? ⟨w.heap.size + 1, 7, none⟩ = some (.slice none 0 0) := by go_simp
  have or8 : w2.cell? ⟨w.heap.size + 1, 8, none⟩ = some (.slice none 0 0) := by go_simp
  have ofb : ∀ o, w2.frozen? ⟨w.heap.size, o, none⟩ = false := by intro o; go_simp
  have ofr : ∀ o, w2.frozen? ⟨w.heap.size + 1, o, none⟩ = false := by intro o; go_simp
  have hB2 : Below w.heap.size w w2 := (by repeat' (first | with_reducible exact Below.refl _ _ | with_reducible assumption | with_reducible refine Below.alloc ?_ ?_ _ | with_reducible refine Below.setCell ?_ ?_ _ | with_reducible refine Below.drew ?_ | with_reducible refine below_drewN ?_ _ | with_reducible refine Below.trans ?_ (Below.mono (by with_reducible assumption) ?_) | omega | (simp <;> omega)))
  clear hcc1 hff1 hb1 hcc2 hff2 hb2 t0 t1 t2 t3 t4 t5 t6 t7 t8 t9 t10
  have oB := Hoff2.out (w.heap.size) (by first | omega | (simp; done) | (simp; omega)) (MachV.off_new HR.out.1 (by omega))
  have oR := Hoff2.out (w.heap.size + 1) (by first | omega | (simp; done) | (simp; omega)) (MachV.off_new HR.out.1 (by omega))
  obtain ⟨w3, hw3⟩ : ∃ W : World, W = (((((((w2.setCell ⟨w.heap.size, 0, none⟩ (.slice m2.mem.pA m2.mem.hs.length m2.mem.pc)).setCell ⟨w.heap.size, 1, none⟩ (.slice m2.mem.vA m2.mem.vs.length m2.mem.vc)).setCell ⟨w.heap.size, 2, none⟩ (.slice m2.ln.fA m2.ln.first.length m2.ln.fc)).setCell ⟨w.heap.size, 3, none⟩ (.slice m2.ln.lA m2.ln.logs.length m2.ln.lc)).setCell ⟨w.heap.size, 4, none⟩ (.map m2.ln.asks)).setCell ⟨w.heap.size, 5, none⟩ (.slice m2.sA m2.steps.length m2.sc)).setCell ⟨w.heap.size, 6, none⟩ (.int .i64 m2.crashes)) := ⟨_, rfl⟩
  have hs3 : w3.heap.size = w2.heap.size := by rw [hw3]; simp
  have ab0 : w3.cell? ⟨w.heap.size, 0, none⟩ = some (.slice m2.mem.pA m2.mem.hs.length m2.mem.pc) := by rw [hw3]; go_simp
  have ab1 : w3.cell? ⟨w.heap.size, 1, none⟩ = some (.slice m2.mem.vA m2.mem.vs.length m2.mem.vc) := by rw [hw3]; go_simp
  have ab2 : w3.cell? ⟨w.heap.size, 2, none⟩ = some (.slice m2.ln.fA m2.ln.first.length m2.ln.fc) := by rw [hw3]; go_simp
  have ab3 : w3.cell? ⟨w.heap.size, 3, none⟩ = some (.slice m2.ln.lA m2.ln.logs.length m2.ln.lc) := by rw [hw3]; go_simp
  have ab4 : w3.cell? ⟨w.heap.size, 4, none⟩ = some (.map m2.ln.asks) := by rw [hw3]; go_simp
  have ab5 : w3.cell? ⟨w.heap.size, 5, none⟩ = some (.slice m2.sA m2.steps.length m2.sc) := by rw [hw3]; go_simp
  have ab6 : w3.cell? ⟨w.heap.size, 6, none⟩ = some (.int .i64 m2.crashes) := by rw [hw3]; go_simp
  have ab7 : w3.cell? ⟨w.heap.size, 7, none⟩ = some (.slice (some ⟨bl, off, none⟩) ts.length tc) := by rw [hw3]; go_simp
  have ab8 : w3.cell? ⟨w.heap.size, 8, none⟩ = some (.slice sA ss.length sc) := by rw [hw3]; go_simp
  have ar0 : w3.cell? ⟨w.heap.size + 1, 0, none⟩ = some (.slice none 0 0) := by rw [hw3]; go_simp
  have ar1 : w3.cell? ⟨w.heap.size + 1, 1, none⟩ = some (.slice none 0 0) := by rw [hw3]; go_simp
  have ar2 : w3.cell? ⟨w.heap.size + 1, 2, none⟩ = some (.slice none 0 0) := by rw [hw3]; go_simp
  have ar3 : w3.cell? ⟨w.heap.size + 1, 3, none⟩ = some (.slice none 0 0) := by rw [hw3]; go_simp
  have ar4 : w3.cell? ⟨w.heap.size + 1, 4, none⟩ = some (.map none) := by rw [hw3]; go_simp
  have ar5 : w3.cell? ⟨w.heap.size + 1, 5, none⟩ = some (.slice none 0 0) := by rw [hw3]; go_simp
  have ar6 : w3.cell? ⟨w.heap.size + 1, 6, none⟩ = some (.int .i64 0) := by rw [hw3]; go_simp
  have ar7 : w3.cell? ⟨w.heap.size + 1, 7, none⟩ = some (.slice none 0 0) := by rw [hw3]; go_simp
  have ar8 : w3.cell? ⟨w.heap.size + 1, 8, none⟩ = some (.slice none 0 0) := by rw [hw3]; go_simp
  have afb : ∀ o, w3.frozen? ⟨w.heap.size, o, none⟩ = false := by intro o; rw [hw3]; go_simp
  have afr : ∀ o, w3.frozen? ⟨w.heap.size + 1, o, none⟩ = false := by intro o; rw [hw3]; go_simp
  have HR3 : Hid (MachV.R w3 m2) := hide (by rw [hw3]; exact (MachV.R.set (MachV.R.set (MachV.R.set (MachV.R.set (MachV.R.set (MachV.R.set (MachV.R.set HR2.out oB (.of ob0) (.slice m2.mem.pA m2.mem.hs.length m2.mem.pc)) oB (.set (.of ob1) _) (.slice m2.mem.vA m2.mem.vs.length m2.mem.vc)) oB (.set (.set (.of ob2) _) _) (.slice m2.ln.fA m2.ln.first.length m2.ln.fc)) oB (.set (.set (.set (.of ob3) _) _) _) (.slice m2.ln.lA m2.ln.logs.length m2.ln.lc)) oB (.set (.set (.set (.set (.of ob4) _) _) _) _) (.map m2.ln.asks)) oB (.set (.set (.set (.set (.set (.of ob5) _) _) _) _) _) (.slice m2.sA m2.steps.length m2.sc)) oB (.set (.set (.set (.set (.set (.set (.of ob6) _) _) _) _) _) _) (.int .i64 m2.crashes)))
  have hB3 : Below w.heap.size w w3 := by rw [hw3]; exact (Below.setCell (Below.setCell (Below.setCell (Below.setCell (Below.setCell (Below.setCell (Below.setCell hB2 (p := ⟨w.heap.size, 0, none⟩) (Nat.le_refl _) (.slice m2.mem.pA m2.mem.hs.length m2.mem.pc)) (p := ⟨w.heap.size, 1, none⟩) (Nat.le_refl _) (.slice m2.mem.vA m2.mem.vs.length m2.mem.vc)) (p := ⟨w.heap.size, 2, none⟩) (Nat.le_refl _) (.slice m2.ln.fA m2.ln.first.length m2.ln.fc)) (p := ⟨w.heap.size, 3, none⟩) (Nat.le_refl _) (.slice m2.ln.lA m2.ln.logs.length m2.ln.lc)) (p := ⟨w.heap.size, 4, none⟩) (Nat.le_refl _) (.map m2.ln.asks)) (p := ⟨w.heap.size, 5, none⟩) (Nat.le_refl _) (.slice m2.sA m2.steps.length m2.sc)) (p := ⟨w.heap.size, 6, none⟩) (Nat.le_refl _) (.int .i64 m2.crashes))
  rw [← hw3]
  clear hw3 hB2 ob0 ob1 ob2 ob3 ob4 ob5 ob6 ob7 ob8 or0 or1 or2 or3 or4 or5 or6 or7 or8 ofb ofr
  obtain ⟨w4, hw4⟩ : ∃ W : World, W = (w3.alloc (.cells #[.slice m2.mem.pA m2.mem.hs.length m2.mem.pc, .slice m2.mem.vA m2.mem.vs.length m2.mem.vc, .slice m2.ln.fA m2.ln.first.length m2.ln.fc, .slice m2.ln.lA m2.ln.logs.length m2.ln.lc, .map m2.ln.asks, .slice m2.sA m2.steps.length m2.sc, .int .i64 m2.crashes] 42)).alloc (.cells #[.int .i64 x.v, .int .u32 x.r, .int .u32 x.f, .bool ok] 106) := ⟨_, rfl⟩
  have hs4' : w2.heap.size + 1 + 1 ≤ w4.heap.size := by rw [hw4]; simp [hs3]
  have hz30 : w.heap.size < w3.heap.size := by omega
  have hz31 : w.heap.size + 1 < w3.heap.size := by omega
  have pb0 : w4.cell? ⟨w.heap.size, 0, none⟩ = some (.slice m2.mem.pA m2.mem.hs.length m2.mem.pc) := by rw [hw4]; go_simp
  have pb1 : w4.cell? ⟨w.heap.size, 1, none⟩ = some (.slice m2.mem.vA m2.mem.vs.length m2.mem.vc) := by rw [hw4]; go_simp
  have pb2 : w4.cell? ⟨w.heap.size, 2, none⟩ = some (.slice m2.ln.fA m2.ln.first.length m2.ln.fc) := by rw [hw4]; go_simp
  have pb3 : w4.cell? ⟨w.heap.size, 3, none⟩ = some (.slice m2.ln.lA m2.ln.logs.length m2.ln.lc) := by rw [hw4]; go_simp
  have pb4 : w4.cell? ⟨w.heap.size, 4, none⟩ = some (.map m2.ln.asks) := by rw [hw4]; go_simp
  have pb5 : w4.cell? ⟨w.heap.size, 5, none⟩ = some (.slice m2.sA m2.steps.length m2.sc) := by rw [hw4]; go_simp
  have pb6 : w4.cell? ⟨w.heap.size, 6, none⟩ = some (.int .i64 m2.crashes) := by rw [hw4]; go_simp
  have pb7 : w4.cell? ⟨w.heap.size, 7, none⟩ = some (.slice (some ⟨bl, off, none⟩) ts.length tc) := by rw [hw4]; go_simp
  have pb8 : w4.cell? ⟨w.heap.size, 8, none⟩ = some (.slice sA ss.length sc) := by rw [hw4]; go_simp
  have pr0 : w4.cell? ⟨w.heap.size + 1, 0, none⟩ = some (.slice none 0 0) := by rw [hw4]; go_simp
  have pr1 : w4.cell? ⟨w.heap.size + 1, 1, none⟩ = some (.slice none 0 0) := by rw [hw4]; go_simp
  have pr2 : w4.cell? ⟨w.heap.size + 1, 2, none⟩ = some (.slice none 0 0) := by rw [hw4]; go_simp
  have pr3 : w4.cell? ⟨w.heap.size + 1, 3, none⟩ = some (.slice none 0 0) := by rw [hw4]; go_simp
  have pr4 : w4.cell? ⟨w.heap.size + 1, 4, none⟩ = some (.map none) := by rw [hw4]; go_simp
  have pr5 : w4.cell? ⟨w.heap.size + 1, 5, none⟩ = some (.slice none 0 0) := by rw [hw4]; go_simp
  have pr6 : w4.cell? ⟨w.heap.size + 1, 6, none⟩ = some (.int .i64 0) := by rw [hw4]; go_simp
  have pr7 : w4.cell? ⟨w.heap.size + 1, 7, none⟩ = some (.slice none 0 0) := by rw [hw4]; go_simp
  have pr8 : w4.cell? ⟨w.heap.size + 1, 8, none⟩ = some (.slice none 0 0) := by rw [hw4]; go_simp
  have pg0 : w4.cell? ⟨w2.heap.size + 1, 0, none⟩ = some (.int .i64 x.v) := by rw [hw4, ← hs3]; go_simp
  have pg1 : w4.cell? ⟨w2.heap.size + 1, 1, none⟩ = some (.int .u32 x.r) := by rw [hw4, ← hs3]; go_simp
  have pg2 : w4.cell? ⟨w2.heap.size + 1, 2, none⟩ = some (.int .u32 x.f) := by rw [hw4, ← hs3]; go_simp
  have pg3 : w4.cell? ⟨w2.heap.size + 1, 3, none⟩ = some (.bool ok) := by rw [hw4, ← hs3]; go_simp
  have pfb : ∀ o, w4.frozen? ⟨w.heap.size, o, none⟩ = false := by intro o; rw [hw4]; go_simp
  have pfr : ∀ o, w4.frozen? ⟨w.heap.size + 1, o, none⟩ = false := by intro o; rw [hw4]; go_simp
  have HR4 := hide (HR3.out.below (w' := w4) (by rw [hw4]; exact (by repeat' (first | with_reducible exact Below.refl _ _ | with_reducible assumption | with_reducible refine Below.alloc ?_ ?_ _ | with_reducible refine Below.setCell ?_ ?_ _ | with_reducible refine Below.drew ?_ | with_reducible refine below_drewN ?_ _ | with_reducible refine Below.trans ?_ (Below.mono (by with_reducible assumption) ?_) | omega | (simp <;> omega)))))
  have hB4 : Below w.heap.size w w4 := by rw [hw4]; exact (by repeat' (first | with_reducible exact Below.refl _ _ | with_reducible assumption | with_reducible refine Below.alloc ?_ ?_ _ | with_reducible refine Below.setCell ?_ ?_ _ | with_reducible refine Below.drew ?_ | with_reducible refine below_drewN ?_ _ | with_reducible refine Below.trans ?_ (Below.mono (by with_reducible assumption) ?_) | omega | (simp <;> omega)))
  rw [← hw4]
  clear hw4 hs3 HR3 hB3 hz30 hz31 ab0 ab1 ab2 ab3 ab4 ab5 ab6 ab7 ab8 ar0 ar1 ar2 ar3 ar4 ar5 ar6 ar7 ar8 afb afr
  have n1 : ¬ w.heap.size = w2.heap.size + 1 := by omega
  have n2 : ¬ w.heap.size + 1 = w2.heap.size + 1 := by omega
  have hy0 : w.heap.size < w4.heap.size := by omega
  have hy1 : w.heap.size + 1 < w4.heap.size := by omega
  have hy2 : w2.heap.size + 1 < w4.heap.size := by omega
  go_upto_region 7 with (first
    | (go_at_call 109; refine (Hct.out _ ((HR.out.2.1.2.2.1.below (by repeat' (first | with_reducible exact Below.refl _ _ | with_reducible assumption | with_reducible refine Below.alloc ?_ ?_ _ | with_reducible refine Below.setCell ?_ ?_ _ | with_reducible refine Below.drew ?_ | with_reducible refine below_drewN ?_ _ | with_reducible refine Below.trans ?_ (Below.mono (by with_reducible assumption) ?_) | omega | (simp <;> omega)))).more (by first | omega | (simp; done) | (simp; omega)))).mono ?_; rintro e w5 ⟨A', tc', rfl, how, hb5⟩; obtain ⟨gs, tc2, hA1, htc, hgs, hrs⟩ := own_some how (by first | omega | (simp only; omega)); injection hA1 with hA1 _ hA2; subst hA1 hA2; have Hcs := hide (own_cells how).1; have hfs := (own_cells how).2; have Hrs := hide hrs; clear how hrs; have hs5 := hb5.size; have qb0 := (hb5.cell (p := ⟨w.heap.size, 0, none⟩) hy0).trans pb0; have qb1 := (hb5.cell (p := ⟨w.heap.size, 1, none⟩) hy0).trans pb1; have qb2 := (hb5.cell (p := ⟨w.heap.size, 2, none⟩) hy0).trans pb2; have qb3 := (hb5.cell (p := ⟨w.heap.size, 3, none⟩) hy0).trans pb3; have qb4 := (hb5.cell (p := ⟨w.heap.size, 4, none⟩) hy0).trans pb4; have qb5 := (hb5.cell (p := ⟨w.heap.size, 5, none⟩) hy0).trans pb5; have qb6 := (hb5.cell (p := ⟨w.heap.size, 6, none⟩) hy0).trans pb6; have qb7 := (hb5.cell (p := ⟨w.heap.size, 7, none⟩) hy0).trans pb7; have qb8 := (hb5.cell (p := ⟨w.heap.size, 8, none⟩) hy0).trans pb8; have qr0 := (hb5.cell (p := ⟨w.heap.size + 1, 0, none⟩) hy1).trans pr0; have qr1 := (hb5.cell (p := ⟨w.heap.size + 1, 1, none⟩) hy1).trans pr1; have qr2 := (hb5.cell (p := ⟨w.heap.size + 1, 2, none⟩) hy1).trans pr2; have qr3 := (hb5.cell (p := ⟨w.heap.size + 1, 3, none⟩) hy1).trans pr3; have qr4 := (hb5.cell (p := ⟨w.heap.size + 1, 4, none⟩) hy1).trans pr4; have qr5 := (hb5.cell (p := ⟨w.heap.size + 1, 5, none⟩) hy1).trans pr5; have qr6 := (hb5.cell (p := ⟨w.heap.size + 1, 6, none⟩) hy1).trans pr6; have qr7 := (hb5.cell (p := ⟨w.heap.size + 1, 7, none⟩) hy1).trans pr7; have qr8 := (hb5.cell (p := ⟨w.heap.size + 1, 8, none⟩) hy1).trans pr8; have qg0 := (hb5.cell (p := ⟨w2.heap.size + 1, 0, none⟩) hy2).trans pg0; have qg1 := (hb5.cell (p := ⟨w2.heap.size + 1, 1, none⟩) hy2).trans pg1; have qg2 := (hb5.cell (p := ⟨w2.heap.size + 1, 2, none⟩) hy2).trans pg2; have qg3 := (hb5.cell (p := ⟨w2.heap.size + 1, 3, none⟩) hy2).trans pg3; have qfb : ∀ o, w5.frozen? ⟨w.heap.size, o, none⟩ = false := (fun o => (hb5.frozen (p := ⟨w.heap.size, o, none⟩) hy0).trans (pfb o)); have qfr : ∀ o, w5.frozen? ⟨w.heap.size + 1, o, none⟩ = false := (fun o => (hb5.frozen (p := ⟨w.heap.size + 1, o, none⟩) hy1).trans (pfr o)); clear pb0 pb1 pb2 pb3 pb4 pb5 pb6 pb7 pb8 pr0 pr1 pr2 pr3 pr4 pr5 pr6 pr7 pr8 pg0 pg1 pg2 pg3 pfb pfr))
  obtain ⟨w6, hw6⟩ : ∃ W : World, W = w5.setCell ⟨w.heap.size, 7, none⟩ (.slice (some ⟨gs, 0, none⟩) ts.length tc') := ⟨_, rfl⟩
  have hs6 : w6.heap.size = w5.heap.size := by rw [hw6]; simp
  have ng0 : ¬ w.heap.size = gs := by omega
  have ng1 : ¬ w.heap.size + 1 = gs := by omega
  have ng2 : ¬ w2.heap.size + 1 = gs := by omega
  have ng3 : ¬ gs = w.heap.size := by omega
  have ng4 : ¬ gs = w.heap.size + 1 := by omega
  have ng5 : ¬ gs = w2.heap.size + 1 := by omega
  have qs0 := Hcs.out (t * 11 + 0) (k.c) ((told_at taskc_len ts t k Hk.out 0 (by omega)).trans rfl)
  have qs1 := Hcs.out (t * 11 + 1) (k.nx) ((told_at taskc_len ts t k Hk.out 1 (by omega)).trans rfl)
  have qs2 := Hcs.out (t * 11 + 2) (.int .i64 k.a.o) ((told_at taskc_len ts t k Hk.out 2 (by omega)).trans rfl)
  have qs3 := Hcs.out (t * 11 + 3) (.int .i64 k.a.l) ((told_at taskc_len ts t k Hk.out 3 (by omega)).trans rfl)
  have qs4 := Hcs.out (t * 11 + 4) (.int .i64 k.a.v) ((told_at taskc_len ts t k Hk.out 4 (by omega)).trans rfl)
  have qs5 := Hcs.out (t * 11 + 5) (.int .u32 k.a.r) ((told_at taskc_len ts t k Hk.out 5 (by omega)).trans rfl)
  have qs6 := Hcs.out (t * 11 + 6) (.int .u32 k.a.f) ((told_at taskc_len ts t k Hk.out 6 (by omega)).trans rfl)
  have qs7 := Hcs.out (t * 11 + 7) (.int .i64 k.a.v2) ((told_at taskc_len ts t k Hk.out 7 (by omega)).trans rfl)
  have qs8 := Hcs.out (t * 11 + 8) (.int .u32 k.a.r2) ((told_at taskc_len ts t k Hk.out 8 (by omega)).trans rfl)
  have qs9 := Hcs.out (t * 11 + 9) (.int .u32 k.a.f2) ((told_at taskc_len ts t k Hk.out 9 (by omega)).trans rfl)
  have qs10 := Hcs.out (t * 11 + 10) (.slice k.A k.m k.cp) ((told_at taskc_len ts t k Hk.out 10 (by omega)).trans rfl)
  have qs0' : w5.cell? ⟨gs, t * 11, none⟩ = some (k.c) := qs0
  have kb0 : w6.cell? ⟨w.heap.size, 0, none⟩ = some (.slice m2.mem.pA m2.mem.hs.length m2.mem.pc) := by rw [hw6]; go_simp
  have kb1 : w6.cell? ⟨w.heap.size, 1, none⟩ = some (.slice m2.mem.vA m2.mem.vs.length m2.mem.vc) := by rw [hw6]; go_simp
  have kb2 : w6.cell? ⟨w.heap.size, 2, none⟩ = some (.slice m2.ln.fA m2.ln.first.length m2.ln.fc) := by rw [hw6]; go_simp
  have kb3 : w6.cell? ⟨w.heap.size, 3, none⟩ = some (.slice m2.ln.lA m2.ln.logs.length m2.ln.lc) := by rw [hw6]; go_simp
  have kb4 : w6.cell? ⟨w.heap.size, 4, none⟩ = some (.map m2.ln.asks) := by rw [hw6]; go_simp
  have kb5 : w6.cell? ⟨w.heap.size, 5, none⟩ = some (.slice m2.sA m2.steps.length m2.sc) := by rw [hw6]; go_simp
  have kb6 : w6.cell? ⟨w.heap.size, 6, none⟩ = some (.int .i64 m2.crashes) := by rw [hw6]; go_simp
  have kb7 : w6.cell? ⟨w.heap.size, 7, none⟩ = some (.slice (some ⟨gs, 0, none⟩) ts.length tc') := by rw [hw6]; go_simp
  have kb8 : w6.cell? ⟨w.heap.size, 8, none⟩ = some (.slice sA ss.length sc) := by rw [hw6]; go_simp
  have kr0 : w6.cell? ⟨w.heap.size + 1, 0, none⟩ = some (.slice none 0 0) := by rw [hw6]; go_simp
  have kr1 : w6.cell? ⟨w.heap.size + 1, 1, none⟩ = some (.slice none 0 0) := by rw [hw6]; go_simp
  have kr2 : w6.cell? ⟨w.heap.size + 1, 2, none⟩ = some (.slice none 0 0) := by rw [hw6]; go_simp
  have kr3 : w6.cell? ⟨w.heap.size + 1, 3, none⟩ = some (.slice none 0 0) := by rw [hw6]; go_simp
  have kr4 : w6.cell? ⟨w.heap.size + 1, 4, none⟩ = some (.map none) := by rw [hw6]; go_simp
  have kr5 : w6.cell? ⟨w.heap.size + 1, 5, none⟩ = some (.slice none 0 0) := by rw [hw6]; go_simp
  have kr6 : w6.cell? ⟨w.heap.size + 1, 6, none⟩ = some (.int .i64 0) := by rw [hw6]; go_simp
  have kr7 : w6.cell? ⟨w.heap.size + 1, 7, none⟩ = some (.slice none 0 0) := by rw [hw6]; go_simp
  have kr8 : w6.cell? ⟨w.heap.size + 1, 8, none⟩ = some (.slice none 0 0) := by rw [hw6]; go_simp
  have kg0 : w6.cell? ⟨w2.heap.size + 1, 0, none⟩ = some (.int .i64 x.v) := by rw [hw6]; go_simp
  have kg1 : w6.cell? ⟨w2.heap.size + 1, 1, none⟩ = some (.int .u32 x.r) := by rw [hw6]; go_simp
  have kg2 : w6.cell? ⟨w2.heap.size + 1, 2, none⟩ = some (.int .u32 x.f) := by rw [hw6]; go_simp
  have kg3 : w6.cell? ⟨w2.heap.size + 1, 3, none⟩ = some (.bool ok) := by rw [hw6]; go_simp
  have ks0 : w6.cell? ⟨gs, t * 11, none⟩ = some (k.c) := by rw [hw6]; go_simp
  have ks1 : w6.cell? ⟨gs, t * 11 + 1, none⟩ = some (k.nx) := by rw [hw6]; go_simp
  have ks2 : w6.cell? ⟨gs, t * 11 + 2, none⟩ = some (.int .i64 k.a.o) := by rw [hw6]; go_simp
  have ks3 : w6.cell? ⟨gs, t * 11 + 3, none⟩ = some (.int .i64 k.a.l) := by rw [hw6]; go_simp
  have ks4 : w6.cell? ⟨gs, t * 11 + 4, none⟩ = some (.int .i64 k.a.v) := by rw [hw6]; go_simp
  have ks5 : w6.cell? ⟨gs, t * 11 + 5, none⟩ = some (.int .u32 k.a.r) := by rw [hw6]; go_simp
  have ks6 : w6.cell? ⟨gs, t * 11 + 6, none⟩ = some (.int .u32 k.a.f) := by rw [hw6]; go_simp
  have ks7 : w6.cell? ⟨gs, t * 11 + 7, none⟩ = some (.int .i64 k.a.v2) := by rw [hw6]; go_simp
  have ks8 : w6.cell? ⟨gs, t * 11 + 8, none⟩ = some (.int .u32 k.a.r2) := by rw [hw6]; go_simp
  have ks9 : w6.cell? ⟨gs, t * 11 + 9, none⟩ = some (.int .u32 k.a.f2) := by rw [hw6]; go_simp
  have ks10 : w6.cell? ⟨gs, t * 11 + 10, none⟩ = some (.slice k.A k.m k.cp) := by rw [hw6]; go_simp
  have kfr : ∀ o, w6.frozen? ⟨w.heap.size + 1, o, none⟩ = false := by intro o; rw [hw6]; go_simp
  have kfs : ∀ o, w6.frozen? ⟨gs, o, none⟩ = false := by intro o; rw [hw6]; go_simp
  have HR6 : Hid (MachV.R w6 m2) := hide (by rw [hw6]; exact MachV.R.set (HR4.out.below hb5) oB (.of qb7) _)
  have Hr6 : Hid (Rd w6 w6.heap.size 11 (some ⟨gs, 0, none⟩) ts.length (ts.flatMap taskc)) := hide (by rw [hw6]; exact Rd.more (Rd.set_off Hrs.out (OffC.at ng3) _) (by simp))
  have hB6 : Below w.heap.size w w6 := by rw [hw6]; exact (hB4.trans (hb5.mono (by omega))).setCell (p := ⟨w.heap.size, 7, none⟩) (Nat.le_refl _) _
  have hgl6 : gs < w6.heap.size := cell_lt ks1
  have hs6' : w4.heap.size ≤ w6.heap.size := by omega
  rw [← hw6]
  clear hw6 hs6 hs5 Hcs Hrs hfs qs0' qs0 qs1 qs2 qs3 qs4 qs5 qs6 qs7 qs8 qs9 qs10 qb0 qb1 qb2 qb3 qb4 qb5 qb6 qb7 qb8 qr0 qr1 qr2 qr3 qr4 qr5 qr6 qr7 qr8 qg0 qg1 qg2 qg3 qfb qfr
  have hx0 : w.heap.size < w6.heap.size := by omega
  have hx1 : w.heap.size + 1 < w6.heap.size := by omega
  have hx2 : w2.heap.size + 1 < w6.heap.size := by omega
  refine wp_region_held_drew (S := (fun w' => w'.cell? ⟨w.heap.size, 7, none⟩ = some (.slice (some ⟨gs, 0, none⟩) ts.length tc') ∧ w'.cell? ⟨w2.heap.size + 1, 0, none⟩ = some (.int .i64 x.v) ∧ w'.cell? ⟨w2.heap.size + 1, 1, none⟩ = some (.int .u32 x.r) ∧ w'.cell? ⟨w2.heap.size + 1, 2, none⟩ = some (.int .u32 x.f) ∧ w'.cell? ⟨w2.heap.size + 1, 3, none⟩ = some (.bool ok))) (by kernel_rfl) (by first | with_reducible exact ⟨kb7, kg0, kg1, kg2, kg3⟩ | exact ⟨by go_simp, by go_simp, by go_simp, by go_simp, by go_simp⟩) (fun hHeld => ?_)
  refine wpAnyH_take (i := 0) (v := ?_) (oi := { dst := some 41, op := Op.fieldAddr 46 (Operand.tmp 3) 1, type := 0, pos := "task.go:111", after := #[], guard := none }) (by rfl) (by kernel_rfl) (by kernel_rfl) (by kernel_rfl) (fun _ _ _ h => h) (Or.inl ⟨by rfl, ?_⟩) (by assumption) ?_; rotate_left; focus (intro wTk hSw; (try dsimp only at hSw); go_simp; (try with_reducible rfl); done)
  (try simp only [Act.put, List.setIfInBounds_toArray, List.set_cons_zero, List.set_cons_succ])
  refine wpAnyH_take (i := 1) (v := ?_) (oi := { dst := some 42, op := Op.load 43 (Operand.tmp 41), type := 43, pos := "task.go:111", after := #[{ on := 0, ground := Ground.data }], guard := none }) (by rfl) (by kernel_rfl) (by kernel_rfl) (by kernel_rfl) (fun _ _ _ h => h) (Or.inl ⟨by rfl, ?_⟩) (by assumption) ?_; rotate_left; focus (intro wTk hSw; (try dsimp only at hSw); go_simp; (try with_reducible rfl); done)
  (try simp only [Act.put, List.setIfInBounds_toArray, List.set_cons_zero, List.set_cons_succ])
  refine wpAnyH_take (i := 2) (v := ?_) (oi := { dst := some 43, op := Op.move (Operand.tmp 1), type := 3, pos := "task.go:111", after := #[], guard := none }) (by rfl) (by kernel_rfl) (by kernel_rfl) (by kernel_rfl) (fun _ _ _ h => h) (Or.inl ⟨by rfl, ?_⟩) (by assumption) ?_; rotate_left; focus (intro wTk hSw; (try dsimp only at hSw); go_simp; (try with_reducible rfl); done)
  (try simp only [Act.put, List.setIfInBounds_toArray, List.set_cons_zero, List.set_cons_succ])
  refine wpAnyH_take (i := 3) (v := ?_) (oi := { dst := some 44, op := Op.binOp BinOp.sub 3 (Operand.tmp 43) (Operand.const (Value.int IntKind.i64 1)) 3, type := 3, pos := "task.go:111", after := #[{ on := 2, ground := Ground.data }], guard := none }) (by rfl) (by kernel_rfl) (by kernel_rfl) (by kernel_rfl) (fun _ _ _ h => h) (Or.inl ⟨by rfl, ?_⟩) (by assumption) ?_; rotate_left; focus (intro wTk hSw; (try dsimp only at hSw); go_simp; (try with_reducible rfl); done)
  (try simp only [Act.put, List.setIfInBounds_toArray, List.set_cons_zero, List.set_cons_succ])
  refine wpAnyH_take (i := 4) (v := ?_) (oi := { dst := some 45, op := Op.fieldAddr 46 (Operand.tmp 3) 1, type := 0, pos := "task.go:111", after := #[], guard := none }) (by rfl) (by kernel_rfl) (by kernel_rfl) (by kernel_rfl) (fun _ _ _ h => h) (Or.inl ⟨by rfl, ?_⟩) (by assumption) ?_; rotate_left; focus (intro wTk hSw; (try dsimp only at hSw); go_simp; (try with_reducible rfl); done)
  (try simp only [Act.put, List.setIfInBounds_toArray, List.set_cons_zero, List.set_cons_succ])
  refine wpAnyH_take (i := 5) (v := ?_) (oi := { dst := some 46, op := Op.load 43 (Operand.tmp 45), type := 43, pos := "task.go:111", after := #[{ on := 4, ground := Ground.data }], guard := none }) (by rfl) (by kernel_rfl) (by kernel_rfl) (by kernel_rfl) (fun _ _ _ h => h) (Or.inl ⟨by rfl, ?_⟩) (by assumption) ?_; rotate_left; focus (intro wTk hSw; (try dsimp only at hSw); go_simp; (try with_reducible rfl); done)
  (try simp only [Act.put, List.setIfInBounds_toArray, List.set_cons_zero, List.set_cons_succ])
  refine wpAnyH_take (i := 6) (v := ?_) (oi := { dst := some 47, op := Op.move (Operand.tmp 1), type := 3, pos := "task.go:111", after := #[], guard := none }) (by rfl) (by kernel_rfl) (by kernel_rfl) (by kernel_rfl) (fun _ _ _ h => h) (Or.inl ⟨by rfl, ?_⟩) (by assumption) ?_; rotate_left; focus (intro wTk hSw; (try dsimp only at hSw); go_simp; (try with_reducible rfl); done)
  (try simp only [Act.put, List.setIfInBounds_toArray, List.set_cons_zero, List.set_cons_succ])
  refine wpAnyH_take (i := 7) (v := ?_) (oi := { dst := some 48, op := Op.binOp BinOp.sub 3 (Operand.tmp 47) (Operand.const (Value.int IntKind.i64 1)) 3, type := 3, pos := "task.go:111", after := #[{ on := 6, ground := Ground.data }], guard := none }) (by rfl) (by kernel_rfl) (by kernel_rfl) (by kernel_rfl) (fun _ _ _ h => h) (Or.inl ⟨by rfl, ?_⟩) (by assumption) ?_; rotate_left; focus (intro wTk hSw; (try dsimp only at hSw); go_simp; (try with_reducible rfl); done)
  (try simp only [Act.put, List.setIfInBounds_toArray, List.set_cons_zero, List.set_cons_succ])
  refine wpAnyH_take (i := 8) (v := ?_) (oi := { dst := some 49, op := Op.indexAddr 43 (Operand.tmp 46) (Operand.tmp 48), type := 0, pos := "task.go:111", after := #[{ on := 5, ground := Ground.data }, { on := 7, ground := Ground.data }], guard := none }) (by rfl) (by kernel_rfl) (by kernel_rfl) (by kernel_rfl) (fun _ _ _ h => h) (Or.inl ⟨by rfl, ?_⟩) (by assumption) ?_; rotate_left; focus (intro wTk hSw; (try dsimp only at hSw); go_simp; (try with_reducible rfl); done)
  (try simp only [Act.put, List.setIfInBounds_toArray, List.set_cons_zero, List.set_cons_succ])
  refine wpAnyH_take (i := 10) (v := ?_) (oi := { dst := some 51, op := Op.load 106 (Operand.tmp 10), type := 106, pos := "task.go:111", after := #[], guard := none }) (by rfl) (by kernel_rfl) (by kernel_rfl) (by kernel_rfl) (fun _ _ _ h => h) (Or.inl ⟨by rfl, ?_⟩) (by assumption) ?_; rotate_left; focus (intro wTk hSw; (try dsimp only at hSw); go_simp; (try with_reducible rfl); done)
  (try simp only [Act.put, List.setIfInBounds_toArray, List.set_cons_zero, List.set_cons_succ])
  refine wpAnyH_ready (rs := [9]) (by kernel_rfl) (by simp) ?_
  refine AllReadyH.cons (o := { dst := some 50, op := Op.load 80 (Operand.tmp 49), type := 80, pos := "task.go:111", after := #[{ on := 8, ground := Ground.data }], guard := none }) (by rfl) (fun K hK => ?_) (AllReadyH.nil)
  go_simp
  skip
  go_wp2_with fail
  refine hK.out _ _ (by first | with_reducible exact ⟨kb7, kg0, kg1, kg2, kg3⟩ | exact ⟨by go_simp, by go_simp, by go_simp, by go_simp, by go_simp⟩) (fun hHeld => ?_)
  clear hK K
  (try simp only [Act.put, List.setIfInBounds_toArray, List.set_cons_zero, List.set_cons_succ])
  refine wpAnyH_ready (rs := [11]) (by kernel_rfl) (by simp) ?_
  refine AllReadyH.cons (o := { dst := some 52, op := Op.call { callee := Callee.value (Operand.func 110), args := #[Operand.tmp 50, Operand.tmp 51], argTypes := #[80, 106] }, type := 80, pos := "task.go:111", after := #[{ on := 9, ground := Ground.data }, { on := 10, ground := Ground.data }], guard := none }) (by rfl) (fun K hK => ?_) (AllReadyH.nil)
  go_simp
  (go_at_call 110; refine (Hgive.out m2 x ok _ HE2.out ((by repeat' (first | with_reducible exact Below.refl _ _ | with_reducible assumption | with_reducible refine Below.alloc ?_ ?_ _ | with_reducible refine Below.setCell ?_ ?_ _ | with_reducible refine Below.drew ?_ | with_reducible refine below_drewN ?_ _ | with_reducible refine Below.trans ?_ (Below.mono (by with_reducible assumption) ?_) | omega | (simp <;> omega)))) (HkR.out.below (by repeat' (first | with_reducible exact Below.refl _ _ | with_reducible assumption | with_reducible refine Below.alloc ?_ ?_ _ | with_reducible refine Below.setCell ?_ ?_ _ | with_reducible refine Below.drew ?_ | with_reducible refine below_drewN ?_ _ | with_reducible refine Below.trans ?_ (Below.mono (by with_reducible assumption) ?_) | omega | (simp <;> omega))))).mono ?_; rintro e w7 ⟨k', rfl, hG7, hg7, hok7, hoff7, hb7'⟩; have hb7 : Below _ _ w7 := (by first | with_reducible exact noDrew hb7' | exact hb7'); have hsw7 := (hb7).size; (try simp at hsw7); have HG7 := hide hG7; have Hg7 := hide hg7; have Hok7 := hide hok7; have Hoff7 := hide hoff7; obtain ⟨hsc, hsn⟩ := hok7.sto; unfold StoV at hsc hsn; clear hG7 hg7 hok7 hoff7 hb7'; have vb0 := (hb7.cell (p := ⟨w.heap.size, 0, none⟩) hx0).trans kb0; have vb1 := (hb7.cell (p := ⟨w.heap.size, 1, none⟩) hx0).trans kb1; have vb2 := (hb7.cell (p := ⟨w.heap.size, 2, none⟩) hx0).trans kb2; have vb3 := (hb7.cell (p := ⟨w.heap.size, 3, none⟩) hx0).trans kb3; have vb4 := (hb7.cell (p := ⟨w.heap.size, 4, none⟩) hx0).trans kb4; have vb5 := (hb7.cell (p := ⟨w.heap.size, 5, none⟩) hx0).trans kb5; have vb6 := (hb7.cell (p := ⟨w.heap.size, 6, none⟩) hx0).trans kb6; have vb7 := (hb7.cell (p := ⟨w.heap.size, 7, none⟩) hx0).trans kb7; have vb8 := (hb7.cell (p := ⟨w.heap.size, 8, none⟩) hx0).trans kb8; have vr0 := (hb7.cell (p := ⟨w.heap.size + 1, 0, none⟩) hx1).trans kr0; have vr1 := (hb7.cell (p := ⟨w.heap.size + 1, 1, none⟩) hx1).trans kr1; have vr2 := (hb7.cell (p := ⟨w.heap.size + 1, 2, none⟩) hx1).trans kr2; have vr3 := (hb7.cell (p := ⟨w.heap.size + 1, 3, none⟩) hx1).trans kr3; have vr4 := (hb7.cell (p := ⟨w.heap.size + 1, 4, none⟩) hx1).trans kr4; have vr5 := (hb7.cell (p := ⟨w.heap.size + 1, 5, none⟩) hx1).trans kr5; have vr6 := (hb7.cell (p := ⟨w.heap.size + 1, 6, none⟩) hx1).trans kr6; have vr7 := (hb7.cell (p := ⟨w.heap.size + 1, 7, none⟩) hx1).trans kr7; have vr8 := (hb7.cell (p := ⟨w.heap.size + 1, 8, none⟩) hx1).trans kr8; have vg0 := (hb7.cell (p := ⟨w2.heap.size + 1, 0, none⟩) hx2).trans kg0; have vg1 := (hb7.cell (p := ⟨w2.heap.size + 1, 1, none⟩) hx2).trans kg1; have vg2 := (hb7.cell (p := ⟨w2.heap.size + 1, 2, none⟩) hx2).trans kg2; have vg3 := (hb7.cell (p := ⟨w2.heap.size + 1, 3, none⟩) hx2).trans kg3; have vs0 := (hb7.cell (p := ⟨gs, t * 11, none⟩) hgl6).trans ks0; have vs1 := (hb7.cell (p := ⟨gs, t * 11 + 1, none⟩) hgl6).trans ks1; have vs2 := (hb7.cell (p := ⟨gs, t * 11 + 2, none⟩) hgl6).trans ks2; have vs3 := (hb7.cell (p := ⟨gs, t * 11 + 3, none⟩) hgl6).trans ks3; have vs4 := (hb7.cell (p := ⟨gs, t * 11 + 4, none⟩) hgl6).trans ks4; have vs5 := (hb7.cell (p := ⟨gs, t * 11 + 5, none⟩) hgl6).trans ks5; have vs6 := (hb7.cell (p := ⟨gs, t * 11 + 6, none⟩) hgl6).trans ks6; have vs7 := (hb7.cell (p := ⟨gs, t * 11 + 7, none⟩) hgl6).trans ks7; have vs8 := (hb7.cell (p := ⟨gs, t * 11 + 8, none⟩) hgl6).trans ks8; have vs9 := (hb7.cell (p := ⟨gs, t * 11 + 9, none⟩) hgl6).trans ks9; have vs10 := (hb7.cell (p := ⟨gs, t * 11 + 10, none⟩) hgl6).trans ks10; have vfr : ∀ o, w7.frozen? ⟨w.heap.size + 1, o, none⟩ = false := (fun o => (hb7.frozen (p := ⟨w.heap.size + 1, o, none⟩) hx1).trans (kfr o)); have vfs : ∀ o, w7.frozen? ⟨gs, o, none⟩ = false := (fun o => (hb7.frozen (p := ⟨gs, o, none⟩) hgl6).trans (kfs o)); have hs7' : w6.heap.size ≤ w7.heap.size := hb7.size)
  go_wp2_with fail
  refine hK.out _ _ (by first | with_reducible exact ⟨kb7, kg0, kg1, kg2, kg3⟩ | exact ⟨by go_simp, by go_simp, by go_simp, by go_simp, by go_simp⟩) (fun hHeld => ?_)
  clear hK K
  (try simp only [Act.put, List.setIfInBounds_toArray, List.set_cons_zero, List.set_cons_succ])
  refine wpAnyH_take (i := 12) (v := ?_) (oi := { dst := some 53, op := Op.indexAddr 43 (Operand.tmp 42) (Operand.tmp 44), type := 0, pos := "task.go:111", after := #[{ on := 1, ground := Ground.data }, { on := 3, ground := Ground.data }, { on := 0, ground := Ground.phase }, { on := 1, ground := Ground.phase }, { on := 2, ground := Ground.phase }, { on := 3, ground := Ground.phase }, { on := 4, ground := Ground.phase }, { on := 5, ground := Ground.phase }, { on := 6, ground := Ground.phase }, { on := 7, ground := Ground.phase }, { on := 8, ground := Ground.phase }, { on := 9, ground := Ground.phase }, { on := 10, ground := Ground.phase }, { on := 11, ground := Ground.phase }], guard := none }) (by rfl) (by kernel_rfl) (by kernel_rfl) (by kernel_rfl) (fun _ _ _ h => h) (Or.inl ⟨by rfl, ?_⟩) (by assumption) ?_; rotate_left; focus (intro wTk hSw; (try dsimp only at hSw); go_simp; (try with_reducible rfl); done)
  (try simp only [Act.put, List.setIfInBounds_toArray, List.set_cons_zero, List.set_cons_succ])
  refine wpAnyH_ready (rs := [13]) (by kernel_rfl) (by simp) ?_
  refine AllReadyH.cons (o := { dst := none, op := Op.store 80 (Operand.tmp 53) (Operand.tmp 52), type := 0, pos := "task.go:111", after := #[{ on := 12, ground := Ground.data }, { on := 11, ground := Ground.data }, { on := 11, ground := Ground.chain }, { on := 0, ground := Ground.phase }, { on := 1, ground := Ground.phase }, { on := 2, ground := Ground.phase }, { on := 3, ground := Ground.phase }, { on := 4, ground := Ground.phase }, { on := 5, ground := Ground.phase }, { on := 6, ground := Ground.phase }, { on := 7, ground := Ground.phase }, { on := 8, ground := Ground.phase }, { on := 9, ground := Ground.phase }, { on := 10, ground := Ground.phase }, { on := 11, ground := Ground.phase }], guard := none }) (by rfl) (fun K hK => ?_) (AllReadyH.nil)
  go_simp
  skip
  go_wp2_with fail
  refine hK.out _ _ (by first | with_reducible exact ⟨kb7, kg0, kg1, kg2, kg3⟩ | exact ⟨by go_simp, by go_simp, by go_simp, by go_simp, by go_simp⟩) (fun hHeld => ?_)
  clear hK K
  (try simp only [Act.put, List.setIfInBounds_toArray, List.set_cons_zero, List.set_cons_succ])
  refine wpAnyH_done (by kernel_rfl) ?_ _
  all_goals go_wp2_with fail
  all_goals have hB7 : Below w.heap.size w w7 := hB6.trans (hb7.mono (by omega))
  all_goals have hgw : w.heap.size ≤ gs := by omega
  all_goals obtain ⟨w8, hw8⟩ : ∃ W : World, W = (((((((((((w7.setCell ⟨gs, t * 11, none⟩ (k'.c)).setCell ⟨gs, t * 11 + 1, none⟩ (k'.nx)).setCell ⟨gs, t * 11 + 2, none⟩ (.int .i64 k'.a.o)).setCell ⟨gs, t * 11 + 3, none⟩ (.int .i64 k'.a.l)).setCell ⟨gs, t * 11 + 4, none⟩ (.int .i64 k'.a.v)).setCell ⟨gs, t * 11 + 5, none⟩ (.int .u32 k'.a.r)).setCell ⟨gs, t * 11 + 6, none⟩ (.int .u32 k'.a.f)).setCell ⟨gs, t * 11 + 7, none⟩ (.int .i64 k'.a.v2)).setCell ⟨gs, t * 11 + 8, none⟩ (.int .u32 k'.a.r2)).setCell ⟨gs, t * 11 + 9, none⟩ (.int .u32 k'.a.f2)).setCell ⟨gs, t * 11 + 10, none⟩ (.slice k'.A k'.m k'.cp)) := ⟨_, rfl⟩
  all_goals have hB8 : Below w.heap.size w w8 := by rw [hw8]; exact (Below.setCell (Below.setCell (Below.setCell (Below.setCell (Below.setCell (Below.setCell (Below.setCell (Below.setCell (Below.setCell (Below.setCell (Below.setCell hB7 (by show w.heap.size ≤ gs; exact hgw) (k'.c)) (by show w.heap.size ≤ gs; exact hgw) (k'.nx)) (by show w.heap.size ≤ gs; exact hgw) (.int .i64 k'.a.o)) (by show w.heap.size ≤ gs; exact hgw) (.int .i64 k'.a.l)) (by show w.heap.size ≤ gs; exact hgw) (.int .i64 k'.a.v)) (by show w.heap.size ≤ gs; exact hgw) (.int .u32 k'.a.r)) (by show w.heap.size ≤ gs; exact hgw) (.int .u32 k'.a.f)) (by show w.heap.size ≤ gs; exact hgw) (.int .i64 k'.a.v2)) (by show w.heap.size ≤ gs; exact hgw) (.int .u32 k'.a.r2)) (by show w.heap.size ≤ gs; exact hgw) (.int .u32 k'.a.f2)) (by show w.heap.size ≤ gs; exact hgw) (.slice k'.A k'.m k'.cp))
  all_goals have hs8 : w8.heap.size = w7.heap.size := by rw [hw8]; simp
  all_goals have og : MachV.off gs m2 := MachV.off_new HR4.out (by omega)
  all_goals have hM8 : MachV.R w8 m2 := by rw [hw8]; exact (MachV.R.set (MachV.R.set (MachV.R.set (MachV.R.set (MachV.R.set (MachV.R.set (MachV.R.set (MachV.R.set (MachV.R.set (MachV.R.set (MachV.R.set (HR6.out.below hb7) og (.of vs0) (k'.c)) og (.set (.of vs1) _) (k'.nx)) og (.set (.set (.of vs2) _) _) (.int .i64 k'.a.o)) og (.set (.set (.set (.of vs3) _) _) _) (.int .i64 k'.a.l)) og (.set (.set (.set (.set (.of vs4) _) _) _) _) (.int .i64 k'.a.v)) og (.set (.set (.set (.set (.set (.of vs5) _) _) _) _) _) (.int .u32 k'.a.r)) og (.set (.set (.set (.set (.set (.set (.of vs6) _) _) _) _) _) _) (.int .u32 k'.a.f)) og (.set (.set (.set (.set (.set (.set (.set (.of vs7) _) _) _) _) _) _) _) (.int .i64 k'.a.v2)) og (.set (.set (.set (.set (.set (.set (.set (.set (.of vs8) _) _) _) _) _) _) _) _) (.int .u32 k'.a.r2)) og (.set (.set (.set (.set (.set (.set (.set (.set (.set (.of vs9) _) _) _) _) _) _) _) _) _) (.int .u32 k'.a.f2)) og (.set (.set (.set (.set (.set (.set (.set (.set (.set (.set (.of vs10) _) _) _) _) _) _) _) _) _) _) (.slice k'.A k'.m k'.cp))
  all_goals have hr8 : Rd w8 w8.heap.size 11 (some ⟨gs, 0, none⟩) ts.length ((ts.set t k').flatMap taskc) := by
              have h := Rd.setCells (taskc k') (i := t * 11) (Hr6.out.below hb7) (by rw [Hr6.out.1, taskc_len]; omega)
              rw [flatMap_put taskc_len ts t k' ht, Nat.zero_add] at h
              have e : setCells w7 gs (t * 11) (taskc k') = w8 := by rw [hw8]; rfl
              rw [e] at h
              exact Rd.more h (by omega)
  all_goals have hoffk : ∀ C, w.heap.size ≤ C → OffC C k.m k.A := fun C hC => by
              obtain ⟨_, _, hr⟩ := HkR.out
              exact OffC.new hr hC
  all_goals have ogk : OffC gs k'.m k'.A := Hoff7.out gs (by first | omega | (simp; done) | (simp; omega)) (hoffk gs hgw)
  all_goals have hg8 : GotsR w8 k'.A k'.m k'.cp (k'.l.flatMap gotc) := by rw [hw8]; exact (GotsR.set' (GotsR.set' (GotsR.set' (GotsR.set' (GotsR.set' (GotsR.set' (GotsR.set' (GotsR.set' (GotsR.set' (GotsR.set' (GotsR.set' Hg7.out ogk (k'.c)) ogk (k'.nx)) ogk (.int .i64 k'.a.o)) ogk (.int .i64 k'.a.l)) ogk (.int .i64 k'.a.v)) ogk (.int .u32 k'.a.r)) ogk (.int .u32 k'.a.f)) ogk (.int .i64 k'.a.v2)) ogk (.int .u32 k'.a.r2)) ogk (.int .u32 k'.a.f2)) ogk (.slice k'.A k'.m k'.cp))
  all_goals have hV8 := HR.out.below hB8
  all_goals have hR8 : WorldV.R w8 (⟨m2, some ⟨gs, 0, none⟩, tc', ts.set t k', sA, sc, ss⟩ : WorldV) := ⟨hM8, ⟨(by show (ts.set t k').length ≤ tc'; rw [List.length_set]; exact htc), (fun e => by cases e), (by show Rd w8 w8.heap.size 11 (some ⟨gs, 0, none⟩) (ts.set t k').length _; rw [List.length_set]; exact hr8), fun y hy => (by
              rcases List.mem_or_eq_of_mem_set hy with hy | rfl
              · exact hV8.2.1.2.2.2 y hy
              · exact ⟨hg8, Hok7.out⟩)⟩, hV8.2.2⟩
  all_goals have hVo := WorldV.off_new HR.out (C := w.heap.size + 1) (by omega)
  all_goals have oV : WorldV.off (w.heap.size + 1) (⟨m2, some ⟨gs, 0, none⟩, tc', ts.set t k', sA, sc, ss⟩ : WorldV) := ⟨oR, OffC.at ng4, hVo.2.2.1, fun y hy => (by
              rcases List.mem_or_eq_of_mem_set hy with hy | rfl
              · exact hVo.2.2.2 y hy
              · exact Hoff7.out _ (by first | omega | (simp; done) | (simp; omega)) (hoffk _ (by omega)))⟩
  all_goals have z0 : w8.cell? ⟨w.heap.size + 1, 0, none⟩ = some (.slice none 0 0) := by rw [hw8]; go_simp
  all_goals have z1 : w8.cell? ⟨w.heap.size + 1, 1, none⟩ = some (.slice none 0 0) := by rw [hw8]; go_simp
  all_goals have z2 : w8.cell? ⟨w.heap.size + 1, 2, none⟩ = some (.slice none 0 0) := by rw [hw8]; go_simp
  all_goals have z3 : w8.cell? ⟨w.heap.size + 1, 3, none⟩ = some (.slice none 0 0) := by rw [hw8]; go_simp
  all_goals have z4 : w8.cell? ⟨w.heap.size + 1, 4, none⟩ = some (.map none) := by rw [hw8]; go_simp
  all_goals have z5 : w8.cell? ⟨w.heap.size + 1, 5, none⟩ = some (.slice none 0 0) := by rw [hw8]; go_simp
  all_goals have z6 : w8.cell? ⟨w.heap.size + 1, 6, none⟩ = some (.int .i64 0) := by rw [hw8]; go_simp
  all_goals have z7 : w8.cell? ⟨w.heap.size + 1, 7, none⟩ = some (.slice none 0 0) := by rw [hw8]; go_simp
  all_goals have z8 : w8.cell? ⟨w.heap.size + 1, 8, none⟩ = some (.slice none 0 0) := by rw [hw8]; go_simp
  all_goals have HZ := hide (WorldV.R.set (WorldV.R.set (WorldV.R.set (WorldV.R.set (WorldV.R.set (WorldV.R.set (WorldV.R.set (WorldV.R.set (WorldV.R.set hR8 oV (.of z0) (.slice m2.mem.pA m2.mem.hs.length m2.mem.pc)) oV (.set (.of z1) _) (.slice m2.mem.vA m2.mem.vs.length m2.mem.vc)) oV (.set (.set (.of z2) _) _) (.slice m2.ln.fA m2.ln.first.length m2.ln.fc)) oV (.set (.set (.set (.of z3) _) _) _) (.slice m2.ln.lA m2.ln.logs.length m2.ln.lc)) oV (.set (.set (.set (.set (.of z4) _) _) _) _) (.map m2.ln.asks)) oV (.set (.set (.set (.set (.set (.of z5) _) _) _) _) _) (.slice m2.sA m2.steps.length m2.sc)) oV (.set (.set (.set (.set (.set (.set (.of z6) _) _) _) _) _) _) (.int .i64 m2.crashes)) oV (.set (.set (.set (.set (.set (.set (.set (.of z7) _) _) _) _) _) _) _) (.slice (some ⟨gs, 0, none⟩) ts.length tc')) oV (.set (.set (.set (.set (.set (.set (.set (.set (.of z8) _) _) _) _) _) _) _) _) (.slice sA ss.length sc))
  all_goals have HB := hide (Below.setCell (Below.setCell (Below.setCell (Below.setCell (Below.setCell (Below.setCell (Below.setCell (Below.setCell (Below.setCell hB8 (p := ⟨w.heap.size + 1, 0, none⟩) (by show w.heap.size ≤ w.heap.size + 1; omega) (.slice m2.mem.pA m2.mem.hs.length m2.mem.pc)) (p := ⟨w.heap.size + 1, 1, none⟩) (by show w.heap.size ≤ w.heap.size + 1; omega) (.slice m2.mem.vA m2.mem.vs.length m2.mem.vc)) (p := ⟨w.heap.size + 1, 2, none⟩) (by show w.heap.size ≤ w.heap.size + 1; omega) (.slice m2.ln.fA m2.ln.first.length m2.ln.fc)) (p := ⟨w.heap.size + 1, 3, none⟩) (by show w.heap.size ≤ w.heap.size + 1; omega) (.slice m2.ln.lA m2.ln.logs.length m2.ln.lc)) (p := ⟨w.heap.size + 1, 4, none⟩) (by show w.heap.size ≤ w.heap.size + 1; omega) (.map m2.ln.asks)) (p := ⟨w.heap.size + 1, 5, none⟩) (by show w.heap.size ≤ w.heap.size + 1; omega) (.slice m2.sA m2.steps.length m2.sc)) (p := ⟨w.heap.size + 1, 6, none⟩) (by show w.heap.size ≤ w.heap.size + 1; omega) (.int .i64 m2.crashes)) (p := ⟨w.heap.size + 1, 7, none⟩) (by show w.heap.size ≤ w.heap.size + 1; omega) (.slice (some ⟨gs, 0, none⟩) ts.length tc')) (p := ⟨w.heap.size + 1, 8, none⟩) (by show w.heap.size ≤ w.heap.size + 1; omega) (.slice sA ss.length sc))
  all_goals have hOf : Hid (∀ C, C < w.heap.size → WorldV.off C ⟨M, some ⟨bl, off, none⟩, tc, ts, sA, sc, ss⟩ → WorldV.off C (⟨m2, some ⟨gs, 0, none⟩, tc', ts.set t k', sA, sc, ss⟩ : WorldV)) := hide (fun C hC h => ⟨Hoff2.out C (by first | omega | (simp; done) | (simp; omega)) h.1, OffC.at (by omega), h.2.2.1, fun y hy => (by
              rcases List.mem_or_eq_of_mem_set hy with hy | rfl
              · exact h.2.2.2 y hy
              · exact Hoff7.out C (by first | omega | (simp; done) | (simp; omega)) (h.2.2.2 k (List.mem_of_getElem? Hk.out)))⟩)
  all_goals have hLt : (ts.set t k').length = ts.length := List.length_set
  all_goals rw [← hw8]
  all_goals clear hw8 hR8 hr8 hg8 hM8 hV8 oV hVo
  all_goals refine bodyPost_ret (v := .agg #[.slice m2.mem.pA m2.mem.hs.length m2.mem.pc, .slice m2.mem.vA m2.mem.vs.length m2.mem.vc, .slice m2.ln.fA m2.ln.first.length m2.ln.fc, .slice m2.ln.lA m2.ln.logs.length m2.ln.lc, .map m2.ln.asks, .slice m2.sA m2.steps.length m2.sc, .int .i64 m2.crashes, .slice (some ⟨gs, 0, none⟩) ts.length tc', .slice sA ss.length sc]) (by simp [results, Tryz.results79, go_sem, z0, z1, z2, z3, z4, z5, z6, z7, z8]; (try go_simp)) rfl ⟨m2, x, ok, k', gs, tc', (by simp only [hLt]), HE2.out, HG7.out, ?_, hOf.out, ?_⟩
  all_goals first
    | with_reducible exact HZ.out
    | with_reducible exact HZ.out.drew
    | with_reducible exact HB.out
    | with_reducible exact HB.out.drew
end Go.Proofs.YtfdndkgjmmeafaaGreatDoor

