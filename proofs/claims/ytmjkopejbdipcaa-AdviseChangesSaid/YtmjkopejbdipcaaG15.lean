/- Package machine: read, at a Look. -/
import Derived.Test.YtmjkopejbdipcaaG14
namespace Go.Proofs.Ytmjkopejbdipcaa
set_option linter.unusedSimpArgs false
set_option linter.unusedVariables false
open Go.RowKit Go.Maps
/-- The machine with another memory. -/
def MachV.withMem (m : MachV) (M : MemV) : MachV := ⟨M, m.ln, m.sA, m.sc, m.steps, m.crashes⟩
theorem MachV.withMem_R {m : MachV} {M : MemV} {w w' : World} (h : m.R w) (hb : Below w.heap.size w w') (hM : M.R w') : (m.withMem M).R w' := ⟨hM, (h.below hb).2⟩
theorem MachV.withMem_off {m : MachV} {M : MemV} {C : Nat} (h : m.off C) (hM : M.off C) : (m.withMem M).off C := ⟨hM, h.2⟩
set_option maxHeartbeats 4000000 in
set_option maxRecDepth 100000 in
theorem mach_look (m : MachV) (t k n : Nat) (ch : Int) (act : ActV) (h : HistV) (g : MsgV) (a : VwV) (w : World) (hop : act.op = 5) (hat : act.at_ = k) (hR : m.R w) (hh : m.mem.hs[k]? = some h) (hl : h.l.length = n + 1) (hg : h.l[n]? = some g) (ha : m.mem.vs[t]? = some a) (hn : m.mem.vs.length ≤ 1000) (hL : m.mem.hs.length ≤ 4096) (hi6 : n ≤ 1000000) :
    Calls Try.prog 59 #[(.agg #[.slice (m).mem.pA (m).mem.hs.length (m).mem.pc, .slice (m).mem.vA (m).mem.vs.length (m).mem.vc, .slice (m).ln.fA (m).ln.first.length (m).ln.fc, .slice (m).ln.lA (m).ln.logs.length (m).ln.lc, .map (m).ln.asks, .slice (m).sA (m).steps.length (m).sc, .int .i64 (m).crashes]), .int .i64 ((t : Int) + 1), (.agg #[.int .i64 (act).op, .int .i64 (act).at_, .int .i64 (act).old.v, .int .u32 (act).old.r, .int .u32 (act).old.f, .int .i64 (act).new.v, .int .u32 (act).new.r, .int .u32 (act).new.f]), .int .i64 ch] w fun e w' => ∃ G v', e = .returned (.tuple #[(.agg #[.slice ((m.withMem (m.mem.with (some ⟨G, 0, none⟩) m.mem.vs.length t ⟨v', joinF (withF a.f k n) g.a.f⟩))).mem.pA ((m.withMem (m.mem.with (some ⟨G, 0, none⟩) m.mem.vs.length t ⟨v', joinF (withF a.f k n) g.a.f⟩))).mem.hs.length ((m.withMem (m.mem.with (some ⟨G, 0, none⟩) m.mem.vs.length t ⟨v', joinF (withF a.f k n) g.a.f⟩))).mem.pc, .slice ((m.withMem (m.mem.with (some ⟨G, 0, none⟩) m.mem.vs.length t ⟨v', joinF (withF a.f k n) g.a.f⟩))).mem.vA ((m.withMem (m.mem.with (some ⟨G, 0, none⟩) m.mem.vs.length t ⟨v', joinF (withF a.f k n) g.a.f⟩))).mem.vs.length ((m.withMem (m.mem.with (some ⟨G, 0, none⟩) m.mem.vs.length t ⟨v', joinF (withF a.f k n) g.a.f⟩))).mem.vc, .slice ((m.withMem (m.mem.with (some ⟨G, 0, none⟩) m.mem.vs.length t ⟨v', joinF (withF a.f k n) g.a.f⟩))).ln.fA ((m.withMem (m.mem.with (some ⟨G, 0, none⟩) m.mem.vs.length t ⟨v', joinF (withF a.f k n) g.a.f⟩))).ln.first.length ((m.withMem (m.mem.with (some ⟨G, 0, none⟩) m.mem.vs.length t ⟨v', joinF (withF a.f k n) g.a.f⟩))).ln.fc, .slice ((m.withMem (m.mem.with (some ⟨G, 0, none⟩) m.mem.vs.length t ⟨v', joinF (withF a.f k n) g.a.f⟩))).ln.lA ((m.withMem (m.mem.with (some ⟨G, 0, none⟩) m.mem.vs.length t ⟨v', joinF (withF a.f k n) g.a.f⟩))).ln.logs.length ((m.withMem (m.mem.with (some ⟨G, 0, none⟩) m.mem.vs.length t ⟨v', joinF (withF a.f k n) g.a.f⟩))).ln.lc, .map ((m.withMem (m.mem.with (some ⟨G, 0, none⟩) m.mem.vs.length t ⟨v', joinF (withF a.f k n) g.a.f⟩))).ln.asks, .slice ((m.withMem (m.mem.with (some ⟨G, 0, none⟩) m.mem.vs.length t ⟨v', joinF (withF a.f k n) g.a.f⟩))).sA ((m.withMem (m.mem.with (some ⟨G, 0, none⟩) m.mem.vs.length t ⟨v', joinF (withF a.f k n) g.a.f⟩))).steps.length ((m.withMem (m.mem.with (some ⟨G, 0, none⟩) m.mem.vs.length t ⟨v', joinF (withF a.f k n) g.a.f⟩))).sc, .int .i64 ((m.withMem (m.mem.with (some ⟨G, 0, none⟩) m.mem.vs.length t ⟨v', joinF (withF a.f k n) g.a.f⟩))).crashes]), .agg #[.int .i64 g.x.v, .int .u32 g.x.r, .int .u32 g.x.f, .bool true]]) ∧ w.heap.size ≤ G ∧ (m.withMem (m.mem.with (some ⟨G, 0, none⟩) m.mem.vs.length t ⟨v', joinF (withF a.f k n) g.a.f⟩)).R w' ∧ Below w.heap.size w w' := by
  have hlook := fun W (hw : m.mem.R W) => mem_Look m.mem t k n h g a W hw hh hl hg ha hn hL hi6
  obtain ⟨op, z, old, new⟩ := act
  simp only at hop hat
  subst hop hat
  have Hlook := hide hlook
  have HR := hide hR
  have hLs : (m.mem.vs.set t ⟨a.v, a.f⟩).length = m.mem.vs.length := List.length_set
  clear hlook hR hh hl hg ha hn hL hi6 hLs
  go_enter Try.func59, Try.ntmps59
  go_wp2_with (first
    | (go_at_call 71; refine (Hlook.out _ (HR.out.1.below (by repeat' (first | with_reducible exact Below.refl _ _ | with_reducible assumption | with_reducible refine Below.alloc ?_ ?_ _ | with_reducible refine Below.setCell ?_ ?_ _ | with_reducible refine Below.drew ?_ | with_reducible refine below_drewN ?_ _ | with_reducible refine Below.trans ?_ (Below.mono (by with_reducible assumption) ?_) | omega | (simp <;> omega))))).mono ?_; rintro e w1 ⟨G, v1, rfl, hG, hm1, hb1⟩; obtain ⟨hcc1, hff1⟩ := bcell hb1; have hs1 := hb1.size; (try simp at hs1); (try simp at hG); have hz0 : w.heap.size < w1.heap.size := (by omega); have hz1 : w.heap.size + 1 < w1.heap.size := (by omega); have hz2 : w.heap.size + 1 + 1 < w1.heap.size := (by omega); have hz3 : w.heap.size + 1 + 1 + 1 < w1.heap.size := (by omega); have hz4 : w.heap.size + 1 + 1 + 1 + 1 < w1.heap.size := (by omega); have Hm1 := hide hm1; clear hm1))
  -- BEHIND
  have ob0 : w1.cell? ⟨w.heap.size, 0, none⟩ = some (.slice m.mem.pA m.mem.hs.length m.mem.pc) := by go_simp
  have ob1 : w1.cell? ⟨w.heap.size, 1, none⟩ = some (.slice m.mem.vA m.mem.vs.length m.mem.vc) := by go_simp
  have ob2 : w1.cell? ⟨w.heap.size, 2, none⟩ = some (.slice m.ln.fA m.ln.first.length m.ln.fc) := by go_simp
  have ob3 : w1.cell? ⟨w.heap.size, 3, none⟩ = some (.slice m.ln.lA m.ln.logs.length m.ln.lc) := by go_simp
  have ob4 : w1.cell? ⟨w.heap.size, 4, none⟩ = some (.map m.ln.asks) := by go_simp
  have ob5 : w1.cell? ⟨w.heap.size, 5, none⟩ = some (.slice m.sA m.steps.length m.sc) := by go_simp
  have ob6 : w1.cell? ⟨w.heap.size, 6, none⟩ = some (.int .i64 m.crashes) := by go_simp
  have or0 : w1.cell? ⟨w.heap.size + 1 + 1, 0, none⟩ = some (.slice none 0 0) := by go_simp
  have or1 : w1.cell? ⟨w.heap.size + 1 + 1, 1, none⟩ = some (.slice none 0 0) := by go_simp
  have or2 : w1.cell? ⟨w.heap.size + 1 + 1, 2, none⟩ = some (.slice none 0 0) := by go_simp
  have or3 : w1.cell? ⟨w.heap.size + 1 + 1, 3, none⟩ = some (.slice none 0 0) := by go_simp
  have or4 : w1.cell? ⟨w.heap.size + 1 + 1, 4, none⟩ = some (.map none) := by go_simp
  have or5 : w1.cell? ⟨w.heap.size + 1 + 1, 5, none⟩ = some (.slice none 0 0) := by go_simp
  have or6 : w1.cell? ⟨w.heap.size + 1 + 1, 6, none⟩ = some (.int .i64 0) := by go_simp
  have og0 : w1.cell? ⟨w.heap.size + 1 + 1 + 1, 0, none⟩ = some (.int .i64 0) := by go_simp
  have og1 : w1.cell? ⟨w.heap.size + 1 + 1 + 1, 1, none⟩ = some (.int .u32 0) := by go_simp
  have og2 : w1.cell? ⟨w.heap.size + 1 + 1 + 1, 2, none⟩ = some (.int .u32 0) := by go_simp
  have og3 : w1.cell? ⟨w.heap.size + 1 + 1 + 1, 3, none⟩ = some (.bool false) := by go_simp
  have ox0 : w1.cell? ⟨w.heap.size + 1 + 1 + 1 + 1, 0, none⟩ = some (.int .i64 0) := by go_simp
  have ox1 : w1.cell? ⟨w.heap.size + 1 + 1 + 1 + 1, 1, none⟩ = some (.int .u32 0) := by go_simp
  have ox2 : w1.cell? ⟨w.heap.size + 1 + 1 + 1 + 1, 2, none⟩ = some (.int .u32 0) := by go_simp
  have ofr : ∀ o, w1.frozen? ⟨w.heap.size + 1 + 1, o, none⟩ = false := by intro o; go_simp
  have ofg : ∀ o, w1.frozen? ⟨w.heap.size + 1 + 1 + 1, o, none⟩ = false := by intro o; go_simp
  have hB1 : Below w.heap.size w w1 := (by repeat' (first | with_reducible exact Below.refl _ _ | with_reducible assumption | with_reducible refine Below.alloc ?_ ?_ _ | with_reducible refine Below.setCell ?_ ?_ _ | with_reducible refine Below.drew ?_ | with_reducible refine below_drewN ?_ _ | with_reducible refine Below.trans ?_ (Below.mono (by with_reducible assumption) ?_) | omega | (simp <;> omega)))
  clear hcc1 hff1 hb1
  obtain ⟨w2, hw2⟩ : ∃ W : World, W = (((((w1.setCell ⟨w.heap.size, 0, none⟩ (.slice m.mem.pA m.mem.hs.length m.mem.pc)).setCell ⟨w.heap.size, 1, none⟩ (.slice (some ⟨G, 0, none⟩) m.mem.vs.length m.mem.vs.length)).setCell ⟨w.heap.size + 1 + 1 + 1 + 1, 0, none⟩ (.int .i64 g.x.v)).setCell ⟨w.heap.size + 1 + 1 + 1 + 1, 1, none⟩ (.int .u32 g.x.r)).setCell ⟨w.heap.size + 1 + 1 + 1 + 1, 2, none⟩ (.int .u32 g.x.f)) := ⟨_, rfl⟩
  have hs2 : w2.heap.size = w1.heap.size := by rw [hw2]; simp
  have pb0 : w2.cell? ⟨w.heap.size, 0, none⟩ = some (.slice m.mem.pA m.mem.hs.length m.mem.pc) := by rw [hw2]; go_simp
  have pb1 : w2.cell? ⟨w.heap.size, 1, none⟩ = some (.slice (some ⟨G, 0, none⟩) m.mem.vs.length m.mem.vs.length) := by rw [hw2]; go_simp
  have pb2 : w2.cell? ⟨w.heap.size, 2, none⟩ = some (.slice m.ln.fA m.ln.first.length m.ln.fc) := by rw [hw2]; go_simp
  have pb3 : w2.cell? ⟨w.heap.size, 3, none⟩ = some (.slice m.ln.lA m.ln.logs.length m.ln.lc) := by rw [hw2]; go_simp
  have pb4 : w2.cell? ⟨w.heap.size, 4, none⟩ = some (.map m.ln.asks) := by rw [hw2]; go_simp
  have pb5 : w2.cell? ⟨w.heap.size, 5, none⟩ = some (.slice m.sA m.steps.length m.sc) := by rw [hw2]; go_simp
  have pb6 : w2.cell? ⟨w.heap.size, 6, none⟩ = some (.int .i64 m.crashes) := by rw [hw2]; go_simp
  have pr0 : w2.cell? ⟨w.heap.size + 1 + 1, 0, none⟩ = some (.slice none 0 0) := by rw [hw2]; go_simp
  have pr1 : w2.cell? ⟨w.heap.size + 1 + 1, 1, none⟩ = some (.slice none 0 0) := by rw [hw2]; go_simp
  have pr2 : w2.cell? ⟨w.heap.size + 1 + 1, 2, none⟩ = some (.slice none 0 0) := by rw [hw2]; go_simp
  have pr3 : w2.cell? ⟨w.heap.size + 1 + 1, 3, none⟩ = some (.slice none 0 0) := by rw [hw2]; go_simp
  have pr4 : w2.cell? ⟨w.heap.size + 1 + 1, 4, none⟩ = some (.map none) := by rw [hw2]; go_simp
  have pr5 : w2.cell? ⟨w.heap.size + 1 + 1, 5, none⟩ = some (.slice none 0 0) := by rw [hw2]; go_simp
  have pr6 : w2.cell? ⟨w.heap.size + 1 + 1, 6, none⟩ = some (.int .i64 0) := by rw [hw2]; go_simp
  have pg0 : w2.cell? ⟨w.heap.size + 1 + 1 + 1, 0, none⟩ = some (.int .i64 0) := by rw [hw2]; go_simp
  have pg1 : w2.cell? ⟨w.heap.size + 1 + 1 + 1, 1, none⟩ = some (.int .u32 0) := by rw [hw2]; go_simp
  have pg2 : w2.cell? ⟨w.heap.size + 1 + 1 + 1, 2, none⟩ = some (.int .u32 0) := by rw [hw2]; go_simp
  have pg3 : w2.cell? ⟨w.heap.size + 1 + 1 + 1, 3, none⟩ = some (.bool false) := by rw [hw2]; go_simp
  have px0 : w2.cell? ⟨w.heap.size + 1 + 1 + 1 + 1, 0, none⟩ = some (.int .i64 g.x.v) := by rw [hw2]; go_simp
  have px1 : w2.cell? ⟨w.heap.size + 1 + 1 + 1 + 1, 1, none⟩ = some (.int .u32 g.x.r) := by rw [hw2]; go_simp
  have px2 : w2.cell? ⟨w.heap.size + 1 + 1 + 1 + 1, 2, none⟩ = some (.int .u32 g.x.f) := by rw [hw2]; go_simp
  have pfr : ∀ o, w2.frozen? ⟨w.heap.size + 1 + 1, o, none⟩ = false := by intro o; rw [hw2]; go_simp
  have pfg : ∀ o, w2.frozen? ⟨w.heap.size + 1 + 1 + 1, o, none⟩ = false := by intro o; rw [hw2]; go_simp
  have oB : MachV.off (w.heap.size) (m.withMem (m.mem.with (some ⟨G, 0, none⟩) m.mem.vs.length t ⟨v1, joinF (withF a.f k n) g.a.f⟩)) := MachV.withMem_off (MachV.off_new HR.out (by omega)) (MemV.off_with (MemV.off_new HR.out.1 (by omega)) (by omega))
  have oR : MachV.off (w.heap.size + 1 + 1) (m.withMem (m.mem.with (some ⟨G, 0, none⟩) m.mem.vs.length t ⟨v1, joinF (withF a.f k n) g.a.f⟩)) := MachV.withMem_off (MachV.off_new HR.out (by omega)) (MemV.off_with (MemV.off_new HR.out.1 (by omega)) (by omega))
  have oG : MachV.off (w.heap.size + 1 + 1 + 1) (m.withMem (m.mem.with (some ⟨G, 0, none⟩) m.mem.vs.length t ⟨v1, joinF (withF a.f k n) g.a.f⟩)) := MachV.withMem_off (MachV.off_new HR.out (by omega)) (MemV.off_with (MemV.off_new HR.out.1 (by omega)) (by omega))
  have oW : MachV.off (w.heap.size + 1 + 1 + 1 + 1) (m.withMem (m.mem.with (some ⟨G, 0, none⟩) m.mem.vs.length t ⟨v1, joinF (withF a.f k n) g.a.f⟩)) := MachV.withMem_off (MachV.off_new HR.out (by omega)) (MemV.off_with (MemV.off_new HR.out.1 (by omega)) (by omega))
  have HM2 : Hid (MachV.R w2 (m.withMem (m.mem.with (some ⟨G, 0, none⟩) m.mem.vs.length t ⟨v1, joinF (withF a.f k n) g.a.f⟩))) := hide (by rw [hw2]; exact (MachV.R.set (MachV.R.set (MachV.R.set (MachV.R.set (MachV.R.set (MachV.withMem_R HR.out hB1 Hm1.out) oB (.of ob0) (.slice m.mem.pA m.mem.hs.length m.mem.pc)) oB (.set (.of ob1) _) (.slice (some ⟨G, 0, none⟩) m.mem.vs.length m.mem.vs.length)) oW (.set (.set (.of ox0) _) _) (.int .i64 g.x.v)) oW (.set (.set (.set (.of ox1) _) _) _) (.int .u32 g.x.r)) oW (.set (.set (.set (.set (.of ox2) _) _) _) _) (.int .u32 g.x.f)))
  have hB2 : Below w.heap.size w w2 := by rw [hw2]; exact (Below.setCell (Below.setCell (Below.setCell (Below.setCell (Below.setCell hB1 (p := ⟨w.heap.size, 0, none⟩) (by show w.heap.size ≤ w.heap.size; omega) (.slice m.mem.pA m.mem.hs.length m.mem.pc)) (p := ⟨w.heap.size, 1, none⟩) (by show w.heap.size ≤ w.heap.size; omega) (.slice (some ⟨G, 0, none⟩) m.mem.vs.length m.mem.vs.length)) (p := ⟨w.heap.size + 1 + 1 + 1 + 1, 0, none⟩) (by show w.heap.size ≤ w.heap.size + 1 + 1 + 1 + 1; omega) (.int .i64 g.x.v)) (p := ⟨w.heap.size + 1 + 1 + 1 + 1, 1, none⟩) (by show w.heap.size ≤ w.heap.size + 1 + 1 + 1 + 1; omega) (.int .u32 g.x.r)) (p := ⟨w.heap.size + 1 + 1 + 1 + 1, 2, none⟩) (by show w.heap.size ≤ w.heap.size + 1 + 1 + 1 + 1; omega) (.int .u32 g.x.f))
  have Hs2 := hide hs2
  rw [← hw2]
  clear hw2 hs2 ob0 ob1 ob2 ob3 ob4 ob5 ob6 or0 or1 or2 or3 or4 or5 or6 og0 og1 og2 og3 ox0 ox1 ox2 ofr ofg Hm1
  refine wp_region_held_drew (S := (fun w' => (w'.cell? ⟨w.heap.size, 0, none⟩ = some (.slice m.mem.pA m.mem.hs.length m.mem.pc) ∧ w'.cell? ⟨w.heap.size, 1, none⟩ = some (.slice (some ⟨G, 0, none⟩) m.mem.vs.length m.mem.vs.length) ∧ w'.cell? ⟨w.heap.size, 2, none⟩ = some (.slice m.ln.fA m.ln.first.length m.ln.fc) ∧ w'.cell? ⟨w.heap.size, 3, none⟩ = some (.slice m.ln.lA m.ln.logs.length m.ln.lc) ∧ w'.cell? ⟨w.heap.size, 4, none⟩ = some (.map m.ln.asks) ∧ w'.cell? ⟨w.heap.size, 5, none⟩ = some (.slice m.sA m.steps.length m.sc) ∧ w'.cell? ⟨w.heap.size, 6, none⟩ = some (.int .i64 m.crashes)) ∧ (w'.cell? ⟨w.heap.size + 1 + 1 + 1 + 1, 0, none⟩ = some (.int .i64 g.x.v) ∧ w'.cell? ⟨w.heap.size + 1 + 1 + 1 + 1, 1, none⟩ = some (.int .u32 g.x.r) ∧ w'.cell? ⟨w.heap.size + 1 + 1 + 1 + 1, 2, none⟩ = some (.int .u32 g.x.f)))) (by kernel_rfl) (by first | with_reducible exact ⟨⟨pb0, pb1, pb2, pb3, pb4, pb5, pb6⟩, px0, px1, px2⟩ | exact ⟨⟨by go_simp, by go_simp, by go_simp, by go_simp, by go_simp, by go_simp, by go_simp⟩, by go_simp, by go_simp, by go_simp⟩) (fun hHeld => ?_)
  refine wpAnyH_take (i := 0) (v := ?_) (oi := { dst := some 40, op := Op.load 38 (Operand.tmp 4), type := 38, pos := "machine.go:95", after := #[], guard := none }) (by rfl) (by kernel_rfl) (by kernel_rfl) (by kernel_rfl) (fun _ _ _ h => h) (Or.inl ⟨by rfl, ?_⟩) (by assumption) ?_; rotate_left; focus (intro wTk hSw; (try dsimp only at hSw); go_simp; (try with_reducible rfl); done)
  (try simp only [Act.put, List.setIfInBounds_toArray, List.set_cons_zero, List.set_cons_succ])
  refine wpAnyH_take (i := 1) (v := ?_) (oi := { dst := some 41, op := Op.load 44 (Operand.tmp 10), type := 44, pos := "machine.go:95", after := #[{ on := 3, ground := Ground.gcOnly Departure.lateStores }], guard := none }) (by rfl) (by kernel_rfl) (by kernel_rfl) (by kernel_rfl) (fun _ _ _ h => h) (Or.inl ⟨by rfl, ?_⟩) (by assumption) ?_; rotate_left; focus (intro wTk hSw; (try dsimp only at hSw); go_simp; (try with_reducible rfl); done)
  (try simp only [Act.put, List.setIfInBounds_toArray, List.set_cons_zero, List.set_cons_succ])
  refine wpAnyH_take (i := 2) (v := ?_) (oi := { dst := some 42, op := Op.build 119 #[(0, Operand.tmp 41), (1, Operand.const (Value.bool true))], type := 119, pos := "machine.go:95", after := #[{ on := 1, ground := Ground.data }, { on := 3, ground := Ground.gcOnly Departure.lateStores }], guard := none }) (by rfl) (by kernel_rfl) (by kernel_rfl) (by kernel_rfl) (fun _ _ _ h => h) (Or.inl ⟨by rfl, ?_⟩) (by assumption) ?_; rotate_left; focus (intro wTk hSw; (try dsimp only at hSw); go_simp; (try with_reducible rfl); done)
  (try simp only [Act.put, List.setIfInBounds_toArray, List.set_cons_zero, List.set_cons_succ])
  refine wpAnyH_ready (rs := [3]) (by kernel_rfl) (by simp) ?_
  refine AllReadyH.cons (o := { dst := none, op := Op.store 38 (Operand.tmp 8) (Operand.tmp 40), type := 0, pos := "machine.go:95", after := #[{ on := 0, ground := Ground.data }, { on := 0, ground := Ground.phase }, { on := 1, ground := Ground.textOnly Departure.lateStores }, { on := 2, ground := Ground.textOnly Departure.lateStores }], guard := none }) (by rfl) (fun K hK => ?_) (AllReadyH.nil)
  go_simp
  skip
  go_wp2_with fail
  refine hK.out _ _ (by first | with_reducible exact ⟨⟨pb0, pb1, pb2, pb3, pb4, pb5, pb6⟩, px0, px1, px2⟩ | exact ⟨⟨by go_simp, by go_simp, by go_simp, by go_simp, by go_simp, by go_simp, by go_simp⟩, by go_simp, by go_simp, by go_simp⟩) (fun hHeld => ?_)
  clear hK K
  (try simp only [Act.put, List.setIfInBounds_toArray, List.set_cons_zero, List.set_cons_succ])
  refine wpAnyH_ready (rs := [4]) (by kernel_rfl) (by simp) ?_
  refine AllReadyH.cons (o := { dst := none, op := Op.store 119 (Operand.tmp 9) (Operand.tmp 42), type := 0, pos := "machine.go:95", after := #[{ on := 2, ground := Ground.data }, { on := 3, ground := Ground.chain }, { on := 0, ground := Ground.phase }, { on := 1, ground := Ground.phase }, { on := 2, ground := Ground.phase }, { on := 3, ground := Ground.phase }], guard := none }) (by rfl) (fun K hK => ?_) (AllReadyH.nil)
  go_simp
  skip
  go_wp2_with fail
  refine hK.out _ _ (by first | with_reducible exact ⟨⟨pb0, pb1, pb2, pb3, pb4, pb5, pb6⟩, px0, px1, px2⟩ | exact ⟨⟨by go_simp, by go_simp, by go_simp, by go_simp, by go_simp, by go_simp, by go_simp⟩, by go_simp, by go_simp, by go_simp⟩) (fun hHeld => ?_)
  clear hK K
  (try simp only [Act.put, List.setIfInBounds_toArray, List.set_cons_zero, List.set_cons_succ])
  refine wpAnyH_done (by kernel_rfl) ?_ _
  all_goals go_wp2_with fail
  all_goals have hGw : w.heap.size ≤ G := by omega
  all_goals have HZ := hide (MachV.R.set (MachV.R.set (MachV.R.set (MachV.R.set (MachV.R.set (MachV.R.set (MachV.R.set (MachV.R.set (MachV.R.set (MachV.R.set (MachV.R.set HM2.out oR (.of pr0) (.slice m.mem.pA m.mem.hs.length m.mem.pc)) oR (.set (.of pr1) _) (.slice (some ⟨G, 0, none⟩) m.mem.vs.length m.mem.vs.length)) oR (.set (.set (.of pr2) _) _) (.slice m.ln.fA m.ln.first.length m.ln.fc)) oR (.set (.set (.set (.of pr3) _) _) _) (.slice m.ln.lA m.ln.logs.length m.ln.lc)) oR (.set (.set (.set (.set (.of pr4) _) _) _) _) (.map m.ln.asks)) oR (.set (.set (.set (.set (.set (.of pr5) _) _) _) _) _) (.slice m.sA m.steps.length m.sc)) oR (.set (.set (.set (.set (.set (.set (.of pr6) _) _) _) _) _) _) (.int .i64 m.crashes)) oG (.set (.set (.set (.set (.set (.set (.set (.of pg0) _) _) _) _) _) _) _) (.int .i64 g.x.v)) oG (.set (.set (.set (.set (.set (.set (.set (.set (.of pg1) _) _) _) _) _) _) _) _) (.int .u32 g.x.r)) oG (.set (.set (.set (.set (.set (.set (.set (.set (.set (.of pg2) _) _) _) _) _) _) _) _) _) (.int .u32 g.x.f)) oG (.set (.set (.set (.set (.set (.set (.set (.set (.set (.set (.of pg3) _) _) _) _) _) _) _) _) _) _) (.bool true))
  all_goals have HB := hide (Below.setCell (Below.setCell (Below.setCell (Below.setCell (Below.setCell (Below.setCell (Below.setCell (Below.setCell (Below.setCell (Below.setCell (Below.setCell hB2 (p := ⟨w.heap.size + 1 + 1, 0, none⟩) (by show w.heap.size ≤ w.heap.size + 1 + 1; omega) (.slice m.mem.pA m.mem.hs.length m.mem.pc)) (p := ⟨w.heap.size + 1 + 1, 1, none⟩) (by show w.heap.size ≤ w.heap.size + 1 + 1; omega) (.slice (some ⟨G, 0, none⟩) m.mem.vs.length m.mem.vs.length)) (p := ⟨w.heap.size + 1 + 1, 2, none⟩) (by show w.heap.size ≤ w.heap.size + 1 + 1; omega) (.slice m.ln.fA m.ln.first.length m.ln.fc)) (p := ⟨w.heap.size + 1 + 1, 3, none⟩) (by show w.heap.size ≤ w.heap.size + 1 + 1; omega) (.slice m.ln.lA m.ln.logs.length m.ln.lc)) (p := ⟨w.heap.size + 1 + 1, 4, none⟩) (by show w.heap.size ≤ w.heap.size + 1 + 1; omega) (.map m.ln.asks)) (p := ⟨w.heap.size + 1 + 1, 5, none⟩) (by show w.heap.size ≤ w.heap.size + 1 + 1; omega) (.slice m.sA m.steps.length m.sc)) (p := ⟨w.heap.size + 1 + 1, 6, none⟩) (by show w.heap.size ≤ w.heap.size + 1 + 1; omega) (.int .i64 m.crashes)) (p := ⟨w.heap.size + 1 + 1 + 1, 0, none⟩) (by show w.heap.size ≤ w.heap.size + 1 + 1 + 1; omega) (.int .i64 g.x.v)) (p := ⟨w.heap.size + 1 + 1 + 1, 1, none⟩) (by show w.heap.size ≤ w.heap.size + 1 + 1 + 1; omega) (.int .u32 g.x.r)) (p := ⟨w.heap.size + 1 + 1 + 1, 2, none⟩) (by show w.heap.size ≤ w.heap.size + 1 + 1 + 1; omega) (.int .u32 g.x.f)) (p := ⟨w.heap.size + 1 + 1 + 1, 3, none⟩) (by show w.heap.size ≤ w.heap.size + 1 + 1 + 1; omega) (.bool true))
  all_goals have hLs : (m.mem.vs.set t ⟨v1, joinF (withF a.f k n) g.a.f⟩).length = m.mem.vs.length := List.length_set
  all_goals refine bodyPost_ret (v := .tuple #[.agg #[.slice m.mem.pA m.mem.hs.length m.mem.pc, .slice (some ⟨G, 0, none⟩) m.mem.vs.length m.mem.vs.length, .slice m.ln.fA m.ln.first.length m.ln.fc, .slice m.ln.lA m.ln.logs.length m.ln.lc, .map m.ln.asks, .slice m.sA m.steps.length m.sc, .int .i64 m.crashes], .agg #[.int .i64 g.x.v, .int .u32 g.x.r, .int .u32 g.x.f, .bool true]]) (by simp [results, Try.results59, go_sem]; (try go_simp)) rfl ⟨G, v1, (by simp only [MachV.withMem, MemV.with, hLs]), hGw, ?_, ?_⟩
  all_goals first
    | with_reducible exact HZ.out
    | with_reducible exact HZ.out.drew
    | with_reducible exact HB.out
    | with_reducible exact HB.out.drew
end Go.Proofs.Ytmjkopejbdipcaa
