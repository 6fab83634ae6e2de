/- Package line: Sync. -/
import Derived.Test.YtnnmenmifphadaaGreatDoorU38
set_option linter.unusedSimpArgs false
set_option linter.unusedVariables false
set_option maxRecDepth 100000
set_option maxHeartbeats 40000000
namespace Go.Proofs.YtnnmenmifphadaaGreatDoor
open Go.RowKit Go.Maps
def syncTo (p : Int → Bool) (g : Int → Int) (logs : List LogV) : List LogV := logs.mapIdx (fun n x => if p n then ⟨x.A, x.cap, x.l, max x.kept (g n)⟩ else x)
def syncL (g : Int → Int) (logs : List LogV) : List LogV := syncTo (fun _ => true) g logs
theorem syncTo_len (p : Int → Bool) (g : Int → Int) (logs : List LogV) : (syncTo p g logs).length = logs.length := by simp [syncTo]
theorem syncTo_at (p : Int → Bool) (g : Int → Int) (logs : List LogV) (n : Nat) : (syncTo p g logs)[n]? = (logs[n]?).map (fun x => if p n then ⟨x.A, x.cap, x.l, max x.kept (g n)⟩ else x) := by simp [syncTo]
theorem syncTo_none {p : Int → Bool} {g : Int → Int} {logs : List LogV} (h : ∀ n : Nat, n < logs.length → p n = true → g n = 0) (hk : ∀ x ∈ logs, 0 ≤ x.kept) : syncTo p g logs = logs := by
 refine List.ext_getElem? (fun n => ?_)
 rw [syncTo_at]
 cases hx : logs[n]? with
 | none => rfl
 | some x =>
  have hn := (List.getElem?_eq_some_iff.1 hx).1
  have h0 := hk x (List.mem_of_getElem? hx)
  simp only [Option.map_some]
  split
  ·rename_i hp
   rw [h n hn hp, Int.max_eq_left h0]
  ·rfl
theorem syncTo_set {p q : Int → Bool} {g : Int → Int} {logs : List LogV} {n : Nat} {x : LogV} (hx : logs[n]? = some x) (hp : p n = false) (hq : ∀ m : Int, q m = (p m || decide (m = n))) : syncTo q g logs = (syncTo p g logs).set n ⟨x.A, x.cap, x.l, max x.kept (g n)⟩ := by
 refine List.ext_getElem? (fun m => ?_)
 have hn := (List.getElem?_eq_some_iff.1 hx).1
 rw [syncTo_at, List.getElem?_set, syncTo_len, syncTo_at]
 by_cases e : n = m
 ·subst e
  rw [if_pos rfl, if_pos hn, hx, hq]
  simp
 ·rw [if_neg e, hq, show decide ((m : Int) = n) = false from decide_eq_false oM, Bool.or_false]
theorem log_setK (x : LogV) (v : Int) : logc ⟨x.A, x.cap, x.l, v⟩ = (logc x).set 1 (.int .i64 v) := rfl
def askZ (G : Nat → Int → Int) (t : Nat) : Nat → Int → Int := fun t' => if t' = t then fun _ => 0 else G t'
theorem syncTo_R {w : World} {p : Int → Bool} {g : Int → Int} {logs : List LogV} (h : ∀ x ∈ logs, x.R w) : ∀ x ∈ syncTo p g logs, x.R w := by
 intro x hx
 obtain ⟨n, hn⟩ := List.mem_iff_getElem?.1 hx
 rw [syncTo_at, Option.map_eq_some_iff] at hn
 obtain ⟨y, hy, rfl⟩ := hn
 have := h y (List.mem_of_getElem? hy)
 split
 ·exact this
 ·exact this
theorem AsksR.gone {N b : Nat} {w : World} {D : DataW Unit} {G : Nat → Int → Int} {t n : Nat} (ho : w.ownsMap Tryz.prog 3 ptrE b n (D.del (.int .i64 ((t : Int) + 1)))) (hk : KeysK D 9) (h3 : ∀ t : Nat, t < 8 → ∃ u, D.atKey (.int .i64 ((t : Int) + 1)) (.lit (.bool false)) = encM u ∧ AskR N w u (G t)) : AsksR N w (some b) (askZ G t) := by
 have hk2 := hk.del (.int .i64 ((t : Int) + 1))
 refine .inr ⟨b, _, rfl, own_fitK ho law_int hk2, hk2, fun t' ht' => ?_⟩
 by_cases e : t' = t
 ·subst e
  refine ⟨none, atKey_del_same _, ?_⟩
  have : askZ G t' t' = fun _ => 0 := if_pos rfl
  rw [this]
  exact ⟨fun z => ⟨Int.le_refl 0, fun _ => rfl⟩, .inl ⟨rfl, fun _ => rfl⟩⟩
 ·obtain ⟨u, e1, e2⟩ := h3 t' ht'
  refine ⟨u, ?_, by rw [show askZ G t t' = G t' from if_neg e]; exact e2⟩
  rw [atKey_del_other (by intro h; injection h with _ h; omega)]
  exact e1
theorem askZ_zero {G : Nat → Int → Int} {t : Nat} (h : ∀ z, G t z = 0) : askZ G t = G := by
 funext t'
 unfold askZ
 split
 ·rename_i e
  subst e
  funext z
  exact (h z).symm
 ·rfl
theorem Rd.grownM {w w' : World} {B size n C : Nat} {A : Option Addr} {xs : List Value} (h : Rd w B size A n xs) (hB : B ≤ w.heap.size) (hs : 0 < size) (hC : ∃ es c, w.heap[C]? = some (.map es c)) (hg : w.grownBy w' (some C)) : Rd w' B size A n xs := by
 refine ⟨h.1, fun hn => ?_⟩
 obtain ⟨b, off, e, hb, hc⟩ := h.2 hn
 have hl : 0 < xs.length := by rw [h.1]; exact Nat.mul_pos hn hs
 have q := hc 0 _ (List.getElem?_eq_getElem hl)
 obtain ⟨c, t, fr, hob⟩ := block_of_cell q
 have h1 : b ≠ C := by
  rintro rfl
  obtain ⟨es, c, hm⟩ := hC
  rw [hm] at hob
  cases hob
 exact ⟨b, off, e, hb, fun j u hu => (World.cell?_of_block (hg.block b oM (by intro e; injection e with e; exact h1 e))).trans (hc j u hu)⟩
theorem LinesV.R.grownM {w w' : World} {m : LinesV} {C : Nat} (h : m.R w) (hg : w.grownBy w' (some C)) (hC : ∃ es c, w.heap[C]? = some (.map es c)) : m.R w' :=
 ⟨⟨h.1.1, h.1.2.1, (h.1.2.2.grownM (Nat.le_refl _) dM hC hg).more hg.size⟩, h.2.1, h.2.2.1, (h.2.2.2.1.grownM (Nat.le_refl _) dM hC hg).more hg.size, fun g hgm => ⟨(h.2.2.2.2 g hgm).1, (h.2.2.2.2 g hgm).2.1, ((h.2.2.2.2 g hgm).2.2.grownM (Nat.le_refl _) dM hC hg).more hg.size⟩⟩
theorem KeysK.has_in {D : DataW Unit} {L : Nat} (h : KeysK D L) {x : Int} (hk : Maps.has D (.int .i64 x) = true) : 0 ≤ x ∧ x < (L : Int) := by
 obtain ⟨y, e, h0, h1⟩ := h.has hk
 injection e with _ e
 subst e
 exact ⟨h0, h1⟩
theorem grown_set (w : World) (a : Addr) (u : Value) : w.grownBy (w.setCell a u) (some a.block) :=
 ⟨rfl, rfl, rfl, by simp, fun k _ hne => Below.heap_setCell w a u k (by intro e; exact hne (by rw [e]))⟩
theorem and_left {a b : Bool} (h : (a && b) = true) : a = true := by cases a <;> simp_all
theorem left_step (left : Lit → Bool) (n m : Int) : (!(left (.int .i64 m) && !(Lit.int .i64 m).sameKey (.int .i64 n))) = (!(left (.int .i64 m)) || decide (m = n)) := by
 rw [Bool.not_and, Bool.not_not]
 congr 1
 by_cases e : m = n
 ·subst e
  simp [Lit.sameKey]
 ·rw [decide_eq_false e]
  exact sameKey_ne (by intro h; injection h with _ h; exact e h)
theorem own_addr {w : World} {base size n cap : Nat} {e : TypeId} {A : Option Addr} {xs : List Value} (h : w.ownsRow base e size (.slice A n cap) n xs) (hn : 0 < n) : ∃ g, A = some ⟨g, 0, none⟩ ∧ base ≤ g ∧ g < w.heap.size := by
 obtain ⟨g, c, e, _, hg, _⟩ := own_some h hn
 injection e with e _ _
 subst e
 exact ⟨g, rfl, hg, (h.lt g rfl).2⟩
theorem BoxC.of3 {B : Nat} {a b c : Value} {w : World} (h0 : w.cell? ⟨B, 0, none⟩ = Option.some a) (h1 : w.cell? ⟨B, 1, none⟩ = Option.some b) (h2 : w.cell? ⟨B, 2, none⟩ = Option.some c) (hf : ∀ o, w.frozen? ⟨B, o, none⟩ = false) : BoxC B [a, b, c] w :=
 ⟨fun j u hu => by
  match j, hu with
  | 0, hu => injection hu with hu; subst hu; exact h0
  | 1, hu => injection hu with hu; subst hu; exact h1
  | 2, hu => injection hu with hu; subst hu; exact h2, hf, cell_lt h0⟩
theorem BoxC.grown {B : Nat} {cs : List Value} {w w' : World} {row : Option Nat} (h : BoxC B cs w) (hg : w.grownBy w' row) (hne : Option.some B ≠ row) : BoxC B cs w' :=
 ⟨fun j u hu => (World.cell?_of_block (hg.block B h.2.2 hne)).trans (h.1 j u hu), fun o => (World.frozen?_of_block (hg.block B h.2.2 hne)).trans (h.2.1 o), Nat.lt_of_lt_of_le h.2.2 hg.size⟩
theorem line_syncM (m : LinesV) (t b : Nat) (D : DataW Unit) (G : Nat → Int → Int) (w : World) (hR : m.R w) (ha : m.asks = some b) (hown : w.ownsMap Tryz.prog 3 ptrE b 9 D) (hK : KeysK D 9) (h3 : ∀ t : Nat, t < 8 → ∃ u, D.atKey (.int .i64 ((t : Int) + 1)) (.lit (.bool false)) = encM u ∧ AskR m.logs.length w u (G t)) (ht : t < 8) (hl : m.logs.length ≤ 4096) (hkp : ∀ x ∈ m.logs, 0 ≤ x.kept ∧ x.kept ≤ 1000000) :
  Calls Tryz.prog 82 #[(.agg #[.slice (m).fA (m).first.length (m).fc, .slice (m).lA (m).logs.length (m).lc, .map (m).asks]), .int .i64 ((t : Int) + 1)] w fun e w' => ∃ (lA' : Option Addr) (lc' b' : Nat), e = .returned (.tuple #[.agg #[.slice m.fA m.first.length m.fc, .slice lA' m.logs.length lc', .map (some b')], .int .i64 0]) ∧ LinesV.R w' ⟨m.fA, m.fc, m.first, lA', lc', syncL (G t) m.logs, some b'⟩ ∧ AsksR m.logs.length w' (some b') (askZ G t) ∧ w.heap.size ≤ b' ∧ (∀ c o, lA' = some ⟨c, o, none⟩ → w.heap.size ≤ c) ∧ Below w.heap.size w w' := by
 obtain ⟨fA, fc, first, lA, lc, logs, asks⟩ := m
 simp only at ha hl hkp h3
 subst ha
 obtain ⟨hla, hrl, hgs⟩ : (lA = none → logs.length = 0) ∧ Rd w w.heap.size 2 lA logs.length (logs.flatMap logc) ∧ ∀ g ∈ logs, g.R w := ⟨hR.2.2.1, hR.2.2.2.1, hR.2.2.2.2⟩
 have hcl := fun W (h : Rd W W.heap.size 2 lA logs.length (logs.flatMap logc)) => clone_L lA logs.length lc (logs.flatMap logc) W h hla (ones_logs logs) oM
 have hwk : (Lit.int .i64 ((t : Int) + 1)).wf = true := WalkArith.wf_i64 oM
 have hzi : ∀ W, (zeroValue 220).run Tryz.prog W = .ok (.map none) W := fun W => Tryz.zeroValue220 W
 have Hcl := hide hcl
 have Hrl := hide hrl
 have HR := hide hR
 have Hown := hide hown
 have HK := hide hK
 have H3 := hide h3
 have Hkp := hide hkp
 obtain ⟨u, hu, hbd, hAu⟩ := h3 t ht
 have Hu := hide hu
 have HAu := hide hAu
 have Hbd := hide hbd
 have Hl := hide hl
 have Hgs := hide hgs
 clear hcl hrl hR hgs hown hK h3 hkp hu hAu hbd hl
 go_enter Tryz.func82, Tryz.ntmps82
 go_upto_region 4 with (first
  | (go_at_call 123; refine (line_thread t _ ht).mono ?_; rintro e w1 ⟨rfl, rfl⟩)
  | (go_at_call 124; refine (Hcl.out _ ((Hrl.out.below ab0).more (by simp; omega))).mono ?_; rintro e w2 ⟨A', lc', rfl, how2, hb2⟩; obtain ⟨hcc2, hff2, hs2⟩ := bC hb2; (try simp at hs2); have hz0 : w.heap.size < w2.heap.size := oM; have hz1 : w.heap.size + 1 < w2.heap.size := oM))
 obtain ⟨w3, hw3⟩ : ∃ W : World, W = w2.setCell ⟨w.heap.size, 1, none⟩ (.slice A' logs.length lc') := ⟨_, rfl⟩
 have g0 : w3.cell? ⟨w.heap.size, 0, none⟩ = some (.slice fA first.length fc) := by rw [hw3]; go_simp
 have g1o : w2.cell? ⟨w.heap.size, 1, none⟩ = some (.slice lA logs.length lc) := by go_simp
 have g1 : w3.cell? ⟨w.heap.size, 1, none⟩ = some (.slice A' logs.length lc') := by rw [hw3]; exact World.cell?_setCell_same _ _ _ g1o
 have g2 : w3.cell? ⟨w.heap.size, 2, none⟩ = some (.map (some b)) := by rw [hw3]; go_simp
 have g3 : w3.cell? ⟨w.heap.size + 1, 0, none⟩ = some (.slice none 0 0) := by rw [hw3]; go_simp
 have g4 : w3.cell? ⟨w.heap.size + 1, 1, none⟩ = some (.slice none 0 0) := by rw [hw3]; go_simp
 have g5 : w3.cell? ⟨w.heap.size + 1, 2, none⟩ = some (.map none) := by rw [hw3]; go_simp
 have k0 : ∀ o, w3.frozen? ⟨w.heap.size, o, none⟩ = false := by intro o; rw [hw3]; go_simp
 have k1 : ∀ o, w3.frozen? ⟨w.heap.size + 1, o, none⟩ = false := by intro o; rw [hw3]; go_simp
 have hs3 : w3.heap.size = w2.heap.size := by rw [hw3]; simp
 have hB3 : Below w.heap.size w w3 := by rw [hw3]; exact ab0
 have how3 : w3.ownsRow (w.heap.size + 1 + 1) 217 2 (.slice A' logs.length lc') logs.length (logs.flatMap logc) := by
  have q : w2.ownsRow (w.heap.size + 1 + 1) 217 2 (.slice A' logs.length lc') logs.length (logs.flatMap logc) := by simpa using how2
  obtain ⟨h1, h2⟩ := q
  refine ⟨h1, ?_⟩
  rcases h2 with h2 | ⟨g, cap, cur, e, hg, ho, h3⟩
  ·exact .inl h2
  ·exact .inr ⟨g, cap, cur, e, hg, by rw [hw3, Below.heap_setCell _ _ _ _ (by show g ≠ w.heap.size; omega)]; exact ho, h3⟩
 have BX : BoxC w.heap.size [.slice fA first.length fc, .slice A' logs.length lc', .map (some b)] w3 := BoxC.of3 g0 g1 g2 k0
 have BR : BoxC (w.heap.size + 1) [.slice none 0 0, .slice none 0 0, .map none] w3 := BoxC.of3 g3 g4 g5 k1
 have hnew : ∀ c o, A' = some ⟨c, o, none⟩ → w.heap.size + 1 + 1 ≤ c := fun c o e => (how3.lt c (by rw [e]; rfl)).1
 rw [← hw3]
 have HBX := hide BX
 have HBR := hide BR
 have HB3 := hide hB3
 have Hnew := hide hnew
 have hs30 : w.heap.size + 1 + 1 ≤ w3.heap.size := by omega
 clear hw3 BX BR hB3 hnew how2 hb2 hcc2 hff2 g1o k0 k1 hs2 hz0 hz1 hs3
 have hz30 : w.heap.size < w3.heap.size := by omega
 have hz31 : w.heap.size + 1 < w3.heap.size := by omega
 have hoff : ∀ C, w.heap.size ≤ C → C < w.heap.size + 1 + 1 → LinesV.off C ⟨fA, fc, first, A', lc', syncL (G t) logs, some b⟩ := fun C h1 h2 => ⟨OffC.new HR.out.1.2.2 h1, (fun _ c o e => by
  have e' : A' = some ⟨c, o, none⟩ := e
  have := Hnew.out c o e'
  omega), fun x hx => by
   obtain ⟨n, hn⟩ := List.mem_iff_getElem?.1 hx
   rw [show syncL (G t) logs = syncTo (fun _ => true) (G t) logs from rfl, syncTo_at, Option.map_eq_some_iff] at hn
   obtain ⟨y, hy, rfl⟩ := hn
   exact OffC.new (HR.out.2.2.2.2 y (List.mem_of_getElem? hy)).2.2 h1⟩
 have HZO := hide hoff
 clear hoff
 have c0 := HBX.out.at (j := 0) rfl
 have c1 := HBX.out.at (j := 1) rfl
 have c2 := HBX.out.at (j := 2) rfl
 have cf := HBX.out.2.1
 rcases HAu.out with ⟨rfl, hG0⟩ | ⟨bi, Di, rfl, hinn, hKi, hri, kl0, hkl0⟩
 ·have hrg : ∀ W, (Instr.range 220 (.map none)).run Tryz.prog W = .ok (.pointer (some ⟨W.heap.size, 0, none⟩)) (W.alloc (.mapIter none 0 #[] 0)) := fun W => by simp [Instr.range, run_underlying Tryz.underlying220]
  have hnx : ∀ (W : World) (a : Nat) (ty : TypeId), a = W.heap.size → (Instr.next (.pointer (some ⟨a, 0, none⟩)) false ty).run Tryz.prog (W.alloc (.mapIter none 0 #[] 0)) = .ok (.tuple #[.bool false]) (W.alloc (.mapIter none 0 #[] 0)) := fun W a ty e => by
   subst e
   simp only [Instr.next, getObj, Sem.run_bind, Sem.run, Go.heap_alloc_new, Result.andThen]
   rfl
  have HG0 := hide hG0
  clear hG0
  go_wp2_with (first
   | (at_lookup; refine wpList_lookup_own_v _ rfl _ _ 31 rfl 3 220 law_int Tryz.underlying31 ptrE (hzi _) (encM none) [] rfl b 9 D rfl (Hown.out.kept (grown_of_below HB3.out none) sM) _ (.int .i64 ((t : Int) + 1)) rfl (keyOf_int_mk Tryz.underlying3 hwk) ?_; intro v ps hv; rw [show (encM none : DataW Unit) = .lit (.bool false) from rfl, Hu.out] at hv; obtain rfl := ptrE_inv hv; clear hv))
  refine wp_loop_rounds 1 ?_
  rw [rounds_succ]
  go_upto_region 8 with fail
  obtain ⟨wz, hwz⟩ : ∃ W : World, W = w3.alloc (.mapIter none 0 #[] 0) := ⟨_, rfl⟩
  have hb3z : Below w3.heap.size w3 wz := by rw [hwz]; exact Below.alloc (Below.refl _ _) (Nat.le_refl _) _
  have hszz := hb3z.size
  have HZX := hide (HBX.out.below hb3z)
  have HZR := hide (HBR.out.below hb3z)
  have HZB := hide (HB3.out.trans (hb3z.mono oM))
  have hsy : syncL (G t) logs = logs := syncTo_none (fun n _ _ => HG0.out n) (fun x hx => (Hkp.out x hx).1)
  obtain ⟨cA, hlc, hA⟩ := own_cap' how3
  have hLz : LinesV.R wz ⟨fA, fc, first, A', lc', syncL (G t) logs, some b⟩ := by
   rw [hsy]
   exact ⟨(HR.out.below HZB.out).1, cA, hlc, (hA.below hb3z).more hb3z.size, (HR.out.below HZB.out).2.2.2.2⟩
  have HZL := hide hLz
  rw [← hwz]
  clear hwz hb3z hsy hA hLz c0 c1 c2 cf g0 g1 g2 g3 g4 g5 how3 hrg hnx hlc cA
  have Hwk := hide hwk
  clear hwk hzi Hcl Hrl hla
  have x0 := HZX.out.at (j := 0) rfl
  have x1 := HZX.out.at (j := 1) rfl
  have x2 := HZX.out.at (j := 2) rfl
  have y0 := HZR.out.at (j := 0) rfl
  have y1 := HZR.out.at (j := 1) rfl
  have y2 := HZR.out.at (j := 2) rfl
  have fx := HZX.out.2.1
  have fy := HZR.out.2.1
  go_wp2_with fail
  refine (clone_outer _ (Hown.out.kept (grown_of_below HZB.out none) sM)).mono ?_
  rintro e w5 ⟨rfl, hown5, hs5, hb5⟩
  have hz50 : w.heap.size < w5.heap.size := by omega
  have hz51 : w.heap.size + 1 < w5.heap.size := by omega
  have hbx5 := HZX.out.below hb5
  have hby5 := HZR.out.below hb5
  have v0 := hbx5.at (j := 0) rfl
  have v1 := hbx5.at (j := 1) rfl
  have v2 := hbx5.at (j := 2) rfl
  have v3 := hby5.at (j := 0) rfl
  have v4 := hby5.at (j := 1) rfl
  have v5 := hby5.at (j := 2) rfl
  have vx := hbx5.2.1
  have vy := hby5.2.1
  have Hb5 := hide hb5
  clear x0 x1 x2 y0 y1 y2 fx fy hbx5 hby5 hb5
  go_upto_region 9 with fail
  obtain ⟨w6, hw6⟩ : ∃ W : World, W = w5.setCell ⟨w.heap.size, 2, none⟩ (.map (some wz.heap.size)) := ⟨_, rfl⟩
  have hown6 : w6.ownsMap Tryz.prog 3 ptrE wz.heap.size 9 D := by rw [hw6]; exact hown5.setCell (a := ⟨w.heap.size, 2, none⟩) (by show wz.heap.size ≠ w.heap.size; omega) _
  have hb5 := Hb5.out
  have hb5w : Below w.heap.size w w5 := HZB.out.trans (hb5.mono oM)
  have hB6 : Below w.heap.size w w6 := by rw [hw6]; exact Below.setCell hb5w (p := ⟨w.heap.size, 2, none⟩) (Nat.le_refl _) _
  have q0 : w6.cell? ⟨w.heap.size, 0, none⟩ = some (.slice fA first.length fc) := by rw [hw6]; go_simp
  have q1 : w6.cell? ⟨w.heap.size, 1, none⟩ = some (.slice A' logs.length lc') := by rw [hw6]; go_simp
  have q2 : w6.cell? ⟨w.heap.size, 2, none⟩ = some (.map (some wz.heap.size)) := by rw [hw6]; exact World.cell?_setCell_same _ _ _ v2
  have q3 : w6.cell? ⟨w.heap.size + 1, 0, none⟩ = some (.slice none 0 0) := by rw [hw6]; go_simp
  have q4 : w6.cell? ⟨w.heap.size + 1, 1, none⟩ = some (.slice none 0 0) := by rw [hw6]; go_simp
  have q5 : w6.cell? ⟨w.heap.size + 1, 2, none⟩ = some (.map none) := by rw [hw6]; go_simp
  have p0 : ∀ o, w6.frozen? ⟨w.heap.size, o, none⟩ = false := by intro o; rw [hw6]; go_simp
  have p1 : ∀ o, w6.frozen? ⟨w.heap.size + 1, o, none⟩ = false := by intro o; rw [hw6]; go_simp
  have hs6 : w6.heap.size = w5.heap.size := by rw [hw6]; simp
  have hL6 : LinesV.R w6 ⟨fA, fc, first, A', lc', syncL (G t) logs, some b⟩ := by rw [hw6]; exact LinesV.R.set (HZL.out.below hb5) (HZO.out _ (Nat.le_refl _) oM) _
  rw [← hw6]
  have HL6 := hide hL6
  have HB6 := hide hB6
  have hz60 : w.heap.size < w6.heap.size := by omega
  have hz61 : w.heap.size + 1 < w6.heap.size := by omega
  clear hw6 hb5 hb5w hL6 hB6 v0 v1 v2 v3 v4 v5 vx vy hown5
  go_wp2_with (at_delete; refine wpList_delete_own _ rfl _ _ 31 3 rfl 220 law_int Tryz.underlying31 ptrE wz.heap.size 9 D rfl hown6 _ (.int .i64 ((t : Int) + 1)) rfl (keyOf_int_mk Tryz.underlying3 Hwk.out) ?_; intro w7 hown7 hturn7; have hg7 := hturn7.grown; obtain ⟨g7a, g7b⟩ := grown_cell hg7 (b := w.heap.size) (by first | omega | (simp; omega)) (by intro e; injection e with e; omega); obtain ⟨g7c, g7d⟩ := grown_cell hg7 (b := w.heap.size + 1) (by first | omega | (simp; omega)) (by intro e; injection e with e; omega))
  have hs7 := hg7.size
  have hB7 : Below w.heap.size w w7 := Below.grown HB6.out hg7 oM (fun j hj => by cases hj; omega)
  have d0 : w7.cell? ⟨w.heap.size + 1, 0, none⟩ = some (.slice none 0 0) := by rw [g7c]; exact q3
  have d1 : w7.cell? ⟨w.heap.size + 1, 1, none⟩ = some (.slice none 0 0) := by rw [g7c]; exact q4
  have d2 : w7.cell? ⟨w.heap.size + 1, 2, none⟩ = some (.map none) := by rw [g7c]; exact q5
  have hb67 : Below wz.heap.size w6 w7 := Below.grown (Below.refl _ _) hg7 oM (fun j hj => by cases hj; omega)
  have h37 : ∀ t : Nat, t < 8 → ∃ u, D.atKey (.int .i64 ((t : Int) + 1)) (.lit (.bool false)) = encM u ∧ AskR logs.length w7 u (G t) := fun t' ht' => by
   obtain ⟨u', e1, e2⟩ := H3.out t' ht'
   exact ⟨u', e1, e2.below hB7⟩
  have hA7 : AsksR logs.length w7 (some wz.heap.size) (askZ G t) := AsksR.gone hown7 HK.out h37
  have hfin := hide (AsksR.set (AsksR.set (AsksR.set hA7 (HasC.of d0) (.slice fA first.length fc)) (HasC.set (.of d1) _) (.slice A' logs.length lc')) (HasC.set (HasC.set (.of d2) _) _) (.map (some wz.heap.size)))
  have hL7 := hide (((LinesV.R.grownM HL6.out hg7 (by obtain ⟨es, cl, hb, _⟩ := hown6; exact ⟨es, cl, hb⟩)).set (HZO.out (w.heap.size + 1) oM oM) (C := w.heap.size + 1) (o := 0) (.slice fA first.length fc)).set (HZO.out (w.heap.size + 1) oM oM) (C := w.heap.size + 1) (o := 1) (.slice A' logs.length lc') |>.set (HZO.out (w.heap.size + 1) oM oM) (C := w.heap.size + 1) (o := 2) (.map (some wz.heap.size)))
  refine bodyPost_ret (v := .tuple #[.agg #[.slice fA first.length fc, .slice A' logs.length lc', .map (some wz.heap.size)], .int .i64 0]) (by simp [results, Tryz.results82, go_sem]; (try go_simp)) rfl ⟨A', lc', wz.heap.size, rfl, ?_, ?_, by omega, (fun c o e => by have := Hnew.out c o e; omega), ab0⟩
  ·exact hL7.out
  ·with_reducible exact hfin.out
 ·obtain ⟨kx, rfl, hkx0, hkx1⟩ := hKi.has hkl0
  obtain ⟨gA, rfl, hgA, hgA2⟩ := own_addr how3 oM
  have BL : BoxC gA (logs.flatMap logc) w3 := ⟨(own_cells how3).1, (own_cells how3).2, hgA2⟩
  obtain ⟨cA, hlc, -⟩ := own_cap' how3
  have HBL := hide BL
  have hbi := hinn.lt
  have hinn3 := hinn.kept (grown_of_below HB3.out none) sM
  have Hinn3 := hide hinn3
  have HKi := hide hKi
  have Hri := hide hri
  clear BL hinn3 hinn hKi hri hkl0 how3
  go_wp2_with (first
   | (at_lookup; refine wpList_lookup_own_v _ rfl _ _ 31 rfl 3 220 law_int Tryz.underlying31 ptrE (hzi _) (encM none) [] rfl b 9 D rfl (Hown.out.kept (grown_of_below HB3.out none) sM) _ (.int .i64 ((t : Int) + 1)) rfl (keyOf_int_mk Tryz.underlying3 hwk) ?_; intro v ps hv; rw [show (encM none : DataW Unit) = .lit (.bool false) from rfl, Hu.out] at hv; obtain rfl := ptrE_inv hv; clear hv)
   | (at_range; refine wpList_range_own _ rfl _ 220 rfl 3 3 law_int Tryz.underlying220 _ bi logs.length Di rfl Hinn3.out ?_; intro w4 hrg4 hg4 hs4))
  go_frame
  have hb34 : Below w3.heap.size w3 w4 := Below.grown (Below.refl _ _) hg4 (Nat.le_refl _) (fun j hj => by cases hj)
  have hst : syncTo (fun n => !(Maps.has Di (.int .i64 n))) (G t) logs = logs := syncTo_none (fun n hn hp => by
   have q := Hri.out n (WalkArith.wf_i64 (by have := Hl.out; omega))
   rw [atKey_of_not_has (by simpa using hp)] at q
   exact (info_inj q).symm) (fun x hx => (Hkp.out x hx).1)
  have Hst := hide hst
  have HX4 := hide (HBX.out.below hb34)
  have HR4 := hide (HBR.out.below hb34)
  have HL4 := hide (HBL.out.below hb34)
  have HB4 := hide (HB3.out.trans (hb34.mono oM))
  have Hrg4 := hide hrg4
  have hs34 := hb34.size
  have Hwk := hide hwk
  clear hrg4 hg4 hb34 hst c0 c1 c2 cf g0 g1 g2 g3 g4 g5 hwk hzi Hcl Hrl hla
  go_loopw [6, 7] (fun _ _ wr => ∃ (left : Lit → Bool) (cnt : Nat), wr.ranges Tryz.prog 3 (plainElem Tryz.prog 3) bi w3.heap.size logs.length Di left cnt ∧ Hid (∀ kl, left kl = true → Maps.has Di kl = true) ∧ Hid (BoxC w.heap.size [.slice fA first.length fc, .slice (some ⟨gA, 0, none⟩) logs.length lc', .map (some b)] wr) ∧ Hid (BoxC (w.heap.size + 1) [.slice none 0 0, .slice none 0 0, .map none] wr) ∧ Hid (BoxC gA ((syncTo (fun n => !(left (.int .i64 n))) (G t) logs).flatMap logc) wr) ∧ Hid (Below w.heap.size w wr) ∧ w4.heap.size ≤ wr.heap.size) (fun _ _ wr => wr.rangeLeft bi w3.heap.size)
  case atStart => exact ⟨_, _, Hrg4.out, hide (fun _ h => h), HX4, HR4, hide (by rw [Hst.out]; exact HL4.out), HB4, Nat.le_refl _⟩
  case round =>
   obtain ⟨left, cnt, hrg, Hsub, HXr, HRr, HLr, HBr, hszr⟩ := hrel
   have Hrg := hide hrg
   go_wp2_with (first
    | (at_next; refine wpList_next_ranges_ii _ rfl _ rfl 3 3 .i64 .i64 law_int Tryz.underlying3 Tryz.underlying3 bi w3.heap.size logs.length _ _ _ rfl hrg ?_ ?_))
   ·intro _ hl0
    have Hl0 := hide hl0
    clear hl0 hrg
    go_upto_region 8 with fail
    obtain ⟨wz, rfl⟩ : ∃ W : World, W = wr := ⟨_, rfl⟩
    have hsy : syncTo (fun n => !(left (.int .i64 n))) (G t) logs = syncL (G t) logs := by
     rw [show (fun n : Int => !(left (.int .i64 n))) = fun _ => true from funext (fun n => by rw [Hl0.out]; rfl)]
     rfl
    have HZX := HXr
    have HZR := HRr
    have HZB := HBr
    have hszz : w3.heap.size ≤ wz.heap.size := by omega
    have hLz : LinesV.R wz ⟨fA, fc, first, some ⟨gA, 0, none⟩, lc', syncL (G t) logs, some b⟩ := by
     have q := HLr.out
     rw [hsy] at q
     have e : (syncL (G t) logs).length = logs.length := syncTo_len _ _ _
     have el : ((syncL (G t) logs).flatMap logc).length = (syncL (G t) logs).length * 2 := by
      have : ∀ l : List LogV, (l.flatMap logc).length = l.length * 2 := fun l => by
       induction l with
       | nil => rfl
       | cons a l ih => rw [List.flatMap_cons, List.length_append, ih, List.length_cons, logc_len]; omega
      exact this _
     exact ⟨(HR.out.below HZB.out).1, (by rw [e]; exact cA), (fun h => by cases h), ⟨el, fun _ => ⟨gA, 0, rfl, q.2.2, fun j u hu => by rw [Nat.zero_add]; exact q.1 j u hu⟩⟩, fun x hx => syncTo_R (p := fun _ => true) (g := G t) (HR.out.below HZB.out).2.2.2.2 x hx⟩
    have HZL := hide hLz
    clear hsy hLz hlc cA
    have x0 := HZX.out.at (j := 0) rfl
    have x1 := HZX.out.at (j := 1) rfl
    have x2 := HZX.out.at (j := 2) rfl
    have y0 := HZR.out.at (j := 0) rfl
    have y1 := HZR.out.at (j := 1) rfl
    have y2 := HZR.out.at (j := 2) rfl
    have fx := HZX.out.2.1
    have fy := HZR.out.2.1
    go_wp2_with fail
    refine (clone_outer _ (Hown.out.kept (grown_of_below HZB.out none) sM)).mono ?_
    rintro e w5 ⟨rfl, hown5, hs5, hb5⟩
    have hz50 : w.heap.size < w5.heap.size := by omega
    have hz51 : w.heap.size + 1 < w5.heap.size := by omega
    have hbx5 := HZX.out.below hb5
    have hby5 := HZR.out.below hb5
    have v0 := hbx5.at (j := 0) rfl
    have v1 := hbx5.at (j := 1) rfl
    have v2 := hbx5.at (j := 2) rfl
    have v3 := hby5.at (j := 0) rfl
    have v4 := hby5.at (j := 1) rfl
    have v5 := hby5.at (j := 2) rfl
    have vx := hbx5.2.1
    have vy := hby5.2.1
    have Hb5 := hide hb5
    clear x0 x1 x2 y0 y1 y2 fx fy hbx5 hby5 hb5
    go_upto_region 9 with fail
    obtain ⟨w6, hw6⟩ : ∃ W : World, W = w5.setCell ⟨w.heap.size, 2, none⟩ (.map (some wz.heap.size)) := ⟨_, rfl⟩
    have hown6 : w6.ownsMap Tryz.prog 3 ptrE wz.heap.size 9 D := by rw [hw6]; exact hown5.setCell (a := ⟨w.heap.size, 2, none⟩) (by show wz.heap.size ≠ w.heap.size; omega) _
    have hb5 := Hb5.out
    have hb5w : Below w.heap.size w w5 := HZB.out.trans (hb5.mono oM)
    have hB6 : Below w.heap.size w w6 := by rw [hw6]; exact Below.setCell hb5w (p := ⟨w.heap.size, 2, none⟩) (Nat.le_refl _) _
    have q0 : w6.cell? ⟨w.heap.size, 0, none⟩ = some (.slice fA first.length fc) := by rw [hw6]; go_simp
    have q1 : w6.cell? ⟨w.heap.size, 1, none⟩ = some (.slice (some ⟨gA, 0, none⟩) logs.length lc') := by rw [hw6]; go_simp
    have q2 : w6.cell? ⟨w.heap.size, 2, none⟩ = some (.map (some wz.heap.size)) := by rw [hw6]; exact World.cell?_setCell_same _ _ _ v2
    have q3 : w6.cell? ⟨w.heap.size + 1, 0, none⟩ = some (.slice none 0 0) := by rw [hw6]; go_simp
    have q4 : w6.cell? ⟨w.heap.size + 1, 1, none⟩ = some (.slice none 0 0) := by rw [hw6]; go_simp
    have q5 : w6.cell? ⟨w.heap.size + 1, 2, none⟩ = some (.map none) := by rw [hw6]; go_simp
    have p0 : ∀ o, w6.frozen? ⟨w.heap.size, o, none⟩ = false := by intro o; rw [hw6]; go_simp
    have p1 : ∀ o, w6.frozen? ⟨w.heap.size + 1, o, none⟩ = false := by intro o; rw [hw6]; go_simp
    have hs6 : w6.heap.size = w5.heap.size := by rw [hw6]; simp
    have hL6 : LinesV.R w6 ⟨fA, fc, first, (some ⟨gA, 0, none⟩), lc', syncL (G t) logs, some b⟩ := by rw [hw6]; exact LinesV.R.set (HZL.out.below hb5) (HZO.out _ (Nat.le_refl _) oM) _
    rw [← hw6]
    have HL6 := hide hL6
    have HB6 := hide hB6
    have hz60 : w.heap.size < w6.heap.size := by omega
    have hz61 : w.heap.size + 1 < w6.heap.size := by omega
    clear hw6 hb5 hb5w hL6 hB6 v0 v1 v2 v3 v4 v5 vx vy hown5
    go_wp2_with (at_delete; refine wpList_delete_own _ rfl _ _ 31 3 rfl 220 law_int Tryz.underlying31 ptrE wz.heap.size 9 D rfl hown6 _ (.int .i64 ((t : Int) + 1)) rfl (keyOf_int_mk Tryz.underlying3 Hwk.out) ?_; intro w7 hown7 hturn7; have hg7 := hturn7.grown; obtain ⟨g7a, g7b⟩ := grown_cell hg7 (b := w.heap.size) (by first | omega | (simp; omega)) (by intro e; injection e with e; omega); obtain ⟨g7c, g7d⟩ := grown_cell hg7 (b := w.heap.size + 1) (by first | omega | (simp; omega)) (by intro e; injection e with e; omega))
    have hs7 := hg7.size
    have hB7 : Below w.heap.size w w7 := Below.grown HB6.out hg7 oM (fun j hj => by cases hj; omega)
    have d0 : w7.cell? ⟨w.heap.size + 1, 0, none⟩ = some (.slice none 0 0) := by rw [g7c]; exact q3
    have d1 : w7.cell? ⟨w.heap.size + 1, 1, none⟩ = some (.slice none 0 0) := by rw [g7c]; exact q4
    have d2 : w7.cell? ⟨w.heap.size + 1, 2, none⟩ = some (.map none) := by rw [g7c]; exact q5
    have hb67 : Below wz.heap.size w6 w7 := Below.grown (Below.refl _ _) hg7 oM (fun j hj => by cases hj; omega)
    have h37 : ∀ t : Nat, t < 8 → ∃ u, D.atKey (.int .i64 ((t : Int) + 1)) (.lit (.bool false)) = encM u ∧ AskR logs.length w7 u (G t) := fun t' ht' => by
     obtain ⟨u', e1, e2⟩ := H3.out t' ht'
     exact ⟨u', e1, e2.below hB7⟩
    have hA7 : AsksR logs.length w7 (some wz.heap.size) (askZ G t) := AsksR.gone hown7 HK.out h37
    have hfin := hide (AsksR.set (AsksR.set (AsksR.set hA7 (HasC.of d0) (.slice fA first.length fc)) (HasC.set (.of d1) _) (.slice (some ⟨gA, 0, none⟩) logs.length lc')) (HasC.set (HasC.set (.of d2) _) _) (.map (some wz.heap.size)))
    have hL7 := hide (((LinesV.R.grownM HL6.out hg7 (by obtain ⟨es, cl, hb, _⟩ := hown6; exact ⟨es, cl, hb⟩)).set (HZO.out (w.heap.size + 1) oM oM) (C := w.heap.size + 1) (o := 0) (.slice fA first.length fc)).set (HZO.out (w.heap.size + 1) oM oM) (C := w.heap.size + 1) (o := 1) (.slice (some ⟨gA, 0, none⟩) logs.length lc') |>.set (HZO.out (w.heap.size + 1) oM oM) (C := w.heap.size + 1) (o := 2) (.map (some wz.heap.size)))
    refine bodyPost_ret (v := .tuple #[.agg #[.slice fA first.length fc, .slice (some ⟨gA, 0, none⟩) logs.length lc', .map (some wz.heap.size)], .int .i64 0]) (by simp [results, Tryz.results82, go_sem]; (try go_simp)) rfl ⟨(some ⟨gA, 0, none⟩), lc', wz.heap.size, rfl, ?_, ?_, by omega, (fun c o e => by have := Hnew.out c o e; omega), ab0⟩
    ·exact hL7.out
    ·with_reducible exact hfin.out
   ·intro x c w8 cnt8 hwx hwc hlx hat hrg8 hlt8 hg8 hs8 hen
    obtain ⟨hx0, hx1⟩ := HKi.out.has_in (Hsub.out _ hlx)
    obtain ⟨n, rfl⟩ : ∃ n : Nat, x = n := ⟨x.toNat, by omega⟩
    have hnl : n < logs.length := by omega
    have hc : c = G t n := info_inj ((hat (.lit (.int .i64 0))).symm.trans (Hri.out n hwx))
    subst hc
    have X8 := hide (HXr.out.grown hg8 (by intro e; injection e with e; omega))
    have R8 := hide (HRr.out.grown hg8 (by intro e; injection e with e; omega))
    have L8 := hide (HLr.out.grown hg8 (by intro e; injection e with e; omega))
    have B8 := hide (Below.grown HBr.out hg8 oM (fun j hj => by cases hj; omega))
    obtain ⟨lx, hlxn⟩ : ∃ lx, logs[n]? = some lx := ⟨_, List.getElem?_eq_getElem hnl⟩
    have hcur : (syncTo (fun n => !(left (.int .i64 n))) (G t) logs)[n]? = some lx := by
     rw [syncTo_at, hlxn]
     simp [hlx]
    have Hcur := hide hcur
    have Hlxn := hide hlxn
    have hkl := Hkp.out lx (List.mem_of_getElem? hlxn)
    have hgl := Hbd.out n
    have v0 := X8.out.at (j := 0) rfl
    have v1 := X8.out.at (j := 1) rfl
    have v2 := X8.out.at (j := 2) rfl
    have vf := X8.out.2.1
    have lf := L8.out.2.1
    have l1 : w8.cell? ⟨gA, n * 2 + 1, none⟩ = some (.int .i64 lx.kept) := L8.out.1 _ _ ((told_at logc_len _ n lx hcur 1 oM).trans rfl)
    have n0 : (0 : Int) ≤ (n : Int) := by omega
    have n1 : (n : Int) < (logs.length : Int) := by omega
    have hs8' : w4.heap.size ≤ w8.heap.size := by omega
    have Hrg8 := hide hrg8
    have Hlx := hide hlx
    clear hrg hrg8 hg8 hat hlx hcur hlxn hwx hwc hkl hgl
    go_wp2_with fail
    go_region
    all_goals go_wp2_with fail
    have hrg9 : (w8.setCell ⟨gA, n * 2 + 1, none⟩ (.int .i64 (max lx.kept (G t n)))).drew.ranges Tryz.prog 3 (plainElem Tryz.prog 3) bi w3.heap.size logs.length Di (fun z => left z && !z.sameKey (.int .i64 n)) cnt8 := (Hrg8.out.kept (grown_set w8 ⟨gA, n * 2 + 1, none⟩ _) (by intro e; have e2 : bi = gA := Option.some.inj e; omega) (by intro e; have e2 : w3.heap.size = gA := Option.some.inj e; omega)).kept (grown_of_below (Below.drew (Below.refl _ _)) none) sM sM
    have hset := syncTo_set (g := G t) Hlxn.out (show (fun m : Int => !(left (.int .i64 m))) n = false by show (!left (.int .i64 n)) = false; rw [Hlx.out]; rfl) (left_step left n)
    have hbx := L8.out.store (o := n * 2 + 1) (by have q := (told_at logc_len _ n lx Hcur.out 1 oM); exact (List.getElem?_eq_some_iff.1 (q.trans rfl)).1) (.int .i64 (max lx.kept (G t n)))
    rw [flatMap_set logc_len _ n 1 lx ⟨lx.A, lx.cap, lx.l, max lx.kept (G t n)⟩ _ Hcur.out oM (log_setK _ _), ← hset] at hbx
    refine ⟨⟨_, cnt8, hrg9, hide (fun kl h => Hsub.out kl (and_left h)), hide (X8.out.far oM _), hide (R8.out.far oM _), hide hbx, hide (Below.drew (Below.setCell B8.out (p := ⟨gA, n * 2 + 1, none⟩) (by show w.heap.size ≤ gA; omega) _)), by simpa using hs8'⟩, ?_⟩
    have e1 := hrg9.left_eq
    have e2 := Hrg.out.left_eq
    rw [e2]
    exact Nat.lt_of_le_of_lt (Nat.le_of_eq e1) hlt8
end Go.Proofs.YtnnmenmifphadaaGreatDoor
namespace Go.Proofs.YtnnmenmifphadaaGreatDoor
open Go.RowKit Go.Maps Go.Sort
theorem line_syncA (m : LinesV) (t : Nat) (G : Nat → Int → Int) (w : World) (hR : m.R w) (hA : AsksR m.logs.length w m.asks G) (ht : t < 8) (hl : m.logs.length ≤ 4096) (hkp : ∀ x ∈ m.logs, 0 ≤ x.kept ∧ x.kept ≤ 1000000) : Calls Tryz.prog 82 #[(.agg #[.slice (m).fA (m).first.length (m).fc, .slice (m).lA (m).logs.length (m).lc, .map (m).asks]), .int .i64 ((t : Int) + 1)] w fun e w' => ∃ L : LinesV, e = .returned (.tuple #[(.agg #[.slice (L).fA (L).first.length (L).fc, .slice (L).lA (L).logs.length (L).lc, .map (L).asks]), .int .i64 0]) ∧ L.logs = syncL (G t) m.logs ∧ L.R w' ∧ Below w.heap.size w w' := by
 rcases hA with ⟨ha, hG⟩ | ⟨b, D, ha, hown, hK, h3⟩
 ·refine (line_sync0 m t w hR oM ha oM).mono ?_
  rintro e w' ⟨lA', lc', rfl, hL, -, hb⟩
  exact ⟨⟨m.fA, m.fc, m.first, lA', lc', m.logs, none⟩, rfl, (syncTo_none (fun n _ _ => hG t n) (fun x hx => (hkp x hx).1)).symm, hL, hb⟩
 ·refine (line_syncM m t b D G w hR ha hown hK h3 oM oM hkp).mono ?_
  rintro e w' ⟨lA', lc', b', rfl, hL, -, -, -, hb⟩
  refine ⟨⟨m.fA, m.fc, m.first, lA', lc', syncL (G t) m.logs, some b'⟩, ?_, rfl, hL, hb⟩
  rw [show (syncL (G t) m.logs).length = m.logs.length from syncTo_len _ _ _]
def syncT (ak : Nat → Int → Int) (n : Nat) (g : LogV) (j : Nat) : List UInt8 := numsT [max g.kept (ak j (n : Int))]
def lineT (th : Nat) (ak : Nat → Int → Int) (p : LogV × Nat) : List UInt8 := numsT [p.1.kept, (p.1.l.length : Int)] ++ (List.range th).flatMap (syncT ak p.2 p.1)
def linesT (m : MachV) : List UInt8 := m.ln.logs.zipIdx.flatMap (lineT m.mem.vs.length m.ak)
def MachV.okL (m : MachV) : Prop := m.mem.vs.length ≤ 8 ∧ m.mem.hs.length ≤ 4096 ∧ m.ln.logs.length = (m.mem.hs.length + 7) / 8 ∧ m.ln.first.length = m.mem.hs.length ∧ (∀ t z, m.ak t z ≤ 1000000) ∧ ∀ g ∈ m.ln.logs, (0 ≤ g.kept ∧ g.kept ≤ 1000000) ∧ g.l.length ≤ 1000000
theorem zip_at {α : Type} {l : List α} {k : Nat} {a : α} (h : l[k]? = some a) : l.zipIdx[k]? = some (a, k) := by
 rw [List.getElem?_zipIdx, h]
 simp
theorem range_at {n j : Nat} (h : j < n) : (List.range n)[j]? = some j := by rw [List.getElem?_range h]
theorem take_all {α : Type} {l : List α} {k : Nat} (h : l.length = k) : l.take k = l := List.take_of_length_le oM
theorem syncL_at {g : Int → Int} {logs : List LogV} {k : Nat} {x : LogV} (h : logs[k]? = some x) : (syncL g logs)[k]? = some ⟨x.A, x.cap, x.l, max x.kept (g k)⟩ := by
 rw [show syncL g logs = syncTo (fun _ => true) g logs from rfl, syncTo_at, h]
 rfl
theorem ex_lines (N b : Nat) (l : List UInt8) (m : MachV) (w : World) (h : Bld N b l w) (hN : 0 < N) (htab : Tab w) (hm : ∀ W, Below N w W → m.ln.R W ∧ AsksR m.ln.logs.length W m.ln.asks m.ak) (hok : m.okL) (hlen : (l ++ linesT m).length ≤ 140737488355328) :
  Calls Tryz.prog 38 #[.pointer (some ⟨b, 0, none⟩), (maV m)] w fun e w' => e = .returned (.tuple #[]) ∧ Bld N b (l ++ linesT m) w' ∧ Ext N b w w' := by
 have hbl := h.lt
 have hNw := h.2.1
 have hsz := fun W => mach_size m W
 have hml := fun W => mach_lines m W
 obtain ⟨hv8, hh6, hlg, -, hask, hlog⟩ := hok
 have Hsz := hide hsz
 have Hml := hide hml
 have Hm := hide hm
 have H := hide h
 have HT := hide htab
 have Hlen := hide hlen
 have Hlg := hide hlg
 have Hask := hide hask
 have Hlog := hide hlog
 have hlb : m.ln.logs.length ≤ 4096 := by omega
 have hq3 : ((m.mem.hs.length : Int) + 8 - 1) / 8 = (m.ln.logs.length : Int) := by omega
 have hq0 : (0 : Int) ≤ (m.mem.hs.length : Int) + 8 - 1 := by omega
 clear hsz hml hm h htab hlen hlg hask hlog
 go_enter Tryz.func38, Tryz.ntmps38
 go_upto_region 3 with (first
  | (go_at_call 54; refine (Hsz.out _).mono ?_; rintro e w1 ⟨rfl, hb1⟩; obtain ⟨hcc1, hff1, hs1⟩ := bC hb1; (try simp at hs1)))
 rw [hq3]
 have hz0 : w.heap.size < w1.heap.size := by omega
 have hB1 : Below w.heap.size w w1 := ab0
 have hobj : w1.heap[w.heap.size]? = some (.cells #[.slice (m).mem.pA (m).mem.hs.length (m).mem.pc, .slice (m).mem.vA (m).mem.vs.length (m).mem.vc, .slice (m).ln.fA (m).ln.first.length (m).ln.fc, .slice (m).ln.lA (m).ln.logs.length (m).ln.lc, .map (m).ln.asks, .slice (m).sA (m).steps.length (m).sc, .int .i64 (m).crashes] 36 (0, 0)) := (hb1.block w.heap.size sM).trans (heap_new _ _ rfl)
 have Hobj := hide hobj
 have HB1 := hide hB1
 clear hcc1 hff1 hb1 hobj hq3 hq0
 go_loopw [23] (fun i wr => ∃ k : Nat, i = .int .i64 k ∧ k ≤ m.ln.logs.length ∧ Hid (Bld N b (l ++ (m.ln.logs.zipIdx.take k).flatMap (lineT m.mem.vs.length m.ak)) wr) ∧ Hid (Ext N b w1 wr)) (fun i _ => m.ln.logs.length - (intOf i).toNat)
 case atStart => exact ⟨0, rfl, by omega, hide (by simpa using H.out.below hB1), hide (Ext.refl _ _ _)⟩
 case round =>
  obtain ⟨k, rfl, hk, HB, HE⟩ := hrel
  by_cases hlt : (k : Int) < m.ln.logs.length
  ·have hk1 : k < m.ln.logs.length := by omega
   have hkb : (k : Int) + 1 ≤ 4096 := by omega
   obtain ⟨g, hgk⟩ : ∃ g, m.ln.logs[k]? = some g := ⟨_, List.getElem?_eq_getElem hk1⟩
   obtain ⟨⟨g0, g1⟩, g2⟩ := Hlog.out g (List.mem_of_getElem? hgk)
   have hob := HE.out.obj Hobj.out oM dM
   have c0 : wr.cell? ⟨w.heap.size, 0, none⟩ = some (.slice m.mem.pA m.mem.hs.length m.mem.pc) := by simp [World.cell?, hob]
   have c1 : wr.cell? ⟨w.heap.size, 1, none⟩ = some (.slice m.mem.vA m.mem.vs.length m.mem.vc) := by simp [World.cell?, hob]
   have c2 : wr.cell? ⟨w.heap.size, 2, none⟩ = some (.slice m.ln.fA m.ln.first.length m.ln.fc) := by simp [World.cell?, hob]
   have c3 : wr.cell? ⟨w.heap.size, 3, none⟩ = some (.slice m.ln.lA m.ln.logs.length m.ln.lc) := by simp [World.cell?, hob]
   have c4 : wr.cell? ⟨w.heap.size, 4, none⟩ = some (.map m.ln.asks) := by simp [World.cell?, hob]
   have c5 : wr.cell? ⟨w.heap.size, 5, none⟩ = some (.slice m.sA m.steps.length m.sc) := by simp [World.cell?, hob]
   have c6 : wr.cell? ⟨w.heap.size, 6, none⟩ = some (.int .i64 m.crashes) := by simp [World.cell?, hob]
   have hzr : w.heap.size < wr.heap.size := Nat.lt_of_lt_of_le hz0 HE.out.size
   have HBwr := hide ((HB1.out.mono hNw).trans HE.out.1)
   have hbr := HB.out.lt
   have hNr := HB.out.2.1
   have hq1 := flat_le (g := lineT m.mem.vs.length m.ak) (l := m.ln.logs.zipIdx) (k + 1)
   rw [flat_take (zip_at hgk)] at hq1
   have hq2 := Hlen.out
   have hq3 : (lineT m.mem.vs.length m.ak (g, k)).length = (numsT [g.kept, (g.l.length : Int)]).length + ((List.range m.mem.vs.length).flatMap (syncT m.ak k g)).length := by unfold lineT; rw [List.length_append]
   unfold linesT at hq2
   have Hq := hide (And.intro hq1 (And.intro hq2 hq3))
   have hkept := fun W (hW : Below N w W) => line_kept m.ln k g W (Hm.out W hW).1 hgk
   have hnum : ∀ W bk, Bld N b (l ++ (m.ln.logs.zipIdx.take k).flatMap (lineT m.mem.vs.length m.ak)) W → Tab W → bk ≠ b → W.heap[bk]? = some (.cells #[.int .i64 g.kept, .int .i64 g.l.length] 2 (0, 0)) → Calls Tryz.prog 39 #[.pointer (some ⟨b, 0, none⟩), .slice (some ⟨bk, 0, none⟩) 2 2] W fun e w' => e = .returned (.tuple #[]) ∧ Bld N b (l ++ (m.ln.logs.zipIdx.take k).flatMap (lineT m.mem.vs.length m.ak) ++ numsT [g.kept, (g.l.length : Int)]) w' ∧ Ext N b W w' := by
    intro W bk hB hT hne hbk
    refine ex_numbers N b _ [g.kept, (g.l.length : Int)] bk W hB hN hbk hne hT (by
     intro y hy
     simp only [List.mem_cons, List.not_mem_nil, or_false] at hy
     rcases hy with rfl | rfl <;> omega) ?_ sM
    obtain ⟨p1, p2, p3⟩ := Hq.out
    simp only [List.length_append] at p1 p2 p3 ⊢
    omega
   have Hkept := hide hkept
   have Hnum := hide hnum
   have Hgk := hide hgk
   have j0 : (0 : Int) ≤ (k : Int) := by omega
   clear hob hgk hq1 hq2 hq3 hkept hnum
   go_upto_region 7 with (first
    | (go_at_call 80; refine (Hml.out _).mono ?_; rintro e w2 ⟨rfl, hb2⟩; have Hb2 := hide hb2; have hs2 := hb2.size; clear hb2)
    | (go_at_call 81; refine (Hkept.out _ (HBwr.out.trans (Hb2.out.mono hNr))).mono ?_; rintro e w3 ⟨rfl, hb3⟩; have Hb3 := hide (Hb2.out.trans (hb3.mono hs2)); have hs3 := hb3.size; clear hb3)
    | (go_at_call 39; refine (Hnum.out _ w3.heap.size ((HB.out.below Hb3.out).below (Below.alloc (Below.refl _ _) (Nat.le_refl _) _)) ((HT.out.below (HBwr.out.trans (Hb3.out.mono hNr)) hN).below (N := w3.heap.size) (Below.alloc (Below.refl _ _) (Nat.le_refl _) _) oM) oM (heap_new _ _ rfl)).mono ?_; rintro e w4 ⟨rfl, hB4, hE4⟩; have HB4 := hide hB4; have HE4 := hide ((HE.out.trans (Ext.of (Hb3.out.trans ((Below.alloc (Below.refl _ _) (Nat.le_refl _) _).mono (Nat.le_trans hs2 hs3))) hNr)).trans hE4); clear hB4 hE4))
   go_wp2_with fail
   clear c0 c1 c2 c3 c4 c5 c6
   go_loopw [9] (fun i wq => ∃ j : Nat, i = .int .i64 ((j : Int) + 1) ∧ j ≤ m.mem.vs.length ∧ Hid (Bld N b (l ++ (m.ln.logs.zipIdx.take k).flatMap (lineT m.mem.vs.length m.ak) ++ numsT [g.kept, (g.l.length : Int)] ++ ((List.range m.mem.vs.length).take j).flatMap (syncT m.ak k g)) wq) ∧ Hid (Ext N b w1 wq)) (fun i _ => m.mem.vs.length + 1 - (intOf i).toNat)
   case atStart => exact ⟨0, rfl, by omega, hide (by simpa using HB4.out), HE4⟩
   case round =>
    obtain ⟨j, rfl, hj, HBq, HEq⟩ := hrel
    by_cases hltj : (j : Int) + 1 ≤ m.mem.vs.length
    ·have hj1 : j < m.mem.vs.length := by omega
     have hob := HEq.out.obj Hobj.out oM dM
     have c0 : wr.cell? ⟨w.heap.size, 0, none⟩ = some (.slice m.mem.pA m.mem.hs.length m.mem.pc) := by simp [World.cell?, hob]
     have c1 : wr.cell? ⟨w.heap.size, 1, none⟩ = some (.slice m.mem.vA m.mem.vs.length m.mem.vc) := by simp [World.cell?, hob]
     have c2 : wr.cell? ⟨w.heap.size, 2, none⟩ = some (.slice m.ln.fA m.ln.first.length m.ln.fc) := by simp [World.cell?, hob]
     have c3 : wr.cell? ⟨w.heap.size, 3, none⟩ = some (.slice m.ln.lA m.ln.logs.length m.ln.lc) := by simp [World.cell?, hob]
     have c4 : wr.cell? ⟨w.heap.size, 4, none⟩ = some (.map m.ln.asks) := by simp [World.cell?, hob]
     have c5 : wr.cell? ⟨w.heap.size, 5, none⟩ = some (.slice m.sA m.steps.length m.sc) := by simp [World.cell?, hob]
     have c6 : wr.cell? ⟨w.heap.size, 6, none⟩ = some (.int .i64 m.crashes) := by simp [World.cell?, hob]
     have hzq : w.heap.size < wr.heap.size := Nat.lt_of_lt_of_le hz0 HEq.out.size
     have HBwq := hide ((HB1.out.mono hNw).trans HEq.out.1)
     have hbq := HBq.out.lt
     have hNq := HBq.out.2.1
     have hsync := fun W (hW : Below N w W) => line_syncA m.ln j m.ak W (Hm.out W hW).1 (Hm.out W hW).2 oM hlb (fun x hx => (Hlog.out x hx).1)
     have hkept := fun (L : LinesV) (hL : L.logs = syncL (m.ak j) m.ln.logs) W (hW : L.R W) => line_kept L k ⟨g.A, g.cap, g.l, max g.kept (m.ak j (k : Int))⟩ W hW (by rw [hL]; exact syncL_at Hgk.out)
     have hnum : ∀ W bk, Bld N b (l ++ (m.ln.logs.zipIdx.take k).flatMap (lineT m.mem.vs.length m.ak) ++ numsT [g.kept, (g.l.length : Int)] ++ ((List.range m.mem.vs.length).take j).flatMap (syncT m.ak k g)) W → Tab W → bk ≠ b → W.heap[bk]? = some (.cells #[.int .i64 (max g.kept (m.ak j (k : Int)))] 2 (0, 0)) → Calls Tryz.prog 39 #[.pointer (some ⟨b, 0, none⟩), .slice (some ⟨bk, 0, none⟩) 1 1] W fun e w' => e = .returned (.tuple #[]) ∧ Bld N b (l ++ (m.ln.logs.zipIdx.take k).flatMap (lineT m.mem.vs.length m.ak) ++ numsT [g.kept, (g.l.length : Int)] ++ ((List.range m.mem.vs.length).take j).flatMap (syncT m.ak k g) ++ syncT m.ak k g j) w' ∧ Ext N b W w' := by
      intro W bk hB hT hne hbk
      refine ex_numbers N b _ [max g.kept (m.ak j (k : Int))] bk W hB hN hbk hne hT (by
       intro y hy
       simp only [List.mem_cons, List.not_mem_nil, or_false] at hy
       subst hy
       have := Hask.out j (k : Int)
       omega) ?_ sM
      obtain ⟨p1, p2, p3⟩ := Hq.out
      have p4 := flat_le (g := syncT m.ak k g) (l := List.range m.mem.vs.length) (j + 1)
      rw [flat_take (range_at hj1), show syncT m.ak k g j = numsT [max g.kept (m.ak j (k : Int))] from rfl] at p4
      simp only [List.length_append] at p1 p2 p3 p4 ⊢
      omega
     have Hsync := hide hsync
     have Hkept2 := hide hkept
     have Hnum2 := hide hnum
     have j1 : (0 : Int) ≤ (j : Int) + 1 := by omega
     clear hob hsync hkept hnum
     go_upto_region 11 with (first
      | (go_at_call 80; refine (Hml.out _).mono ?_; rintro e w5 ⟨rfl, hb5⟩; have Hb5 := hide hb5; have hs5 := hb5.size; clear hb5)
      | (go_at_call 82; refine (Hsync.out _ (HBwq.out.trans (Hb5.out.mono hNq))).mono ?_; rintro e w6 ⟨L, rfl, hL6, hln6, hb6⟩; have HL6 := hide hL6; clear hL6; have Hb6 := hide (Hb5.out.trans (hb6.mono hs5)); have hs6 := hb6.size; have Hln6 := hide hln6; clear hb6 hln6))
     obtain ⟨w7, hw7⟩ : ∃ W : World, W = w6.alloc (.cells #[.slice L.fA L.first.length L.fc, .slice L.lA L.logs.length L.lc, .map L.asks] 33) := ⟨_, rfl⟩
     have hB67 : Below w6.heap.size w6 w7 := by rw [hw7]; exact Below.alloc (Below.refl _ _) (Nat.le_refl _) _
     have hob7 : w7.heap[w6.heap.size]? = some (.cells #[.slice L.fA L.first.length L.fc, .slice L.lA L.logs.length L.lc, .map L.asks] 33 (0, 0)) := by rw [hw7]; exact heap_new _ _ rfl
     have d0 : w7.cell? ⟨w6.heap.size, 0, none⟩ = some (.slice L.fA L.first.length L.fc) := by simp [World.cell?, hob7]
     have d1 : w7.cell? ⟨w6.heap.size, 1, none⟩ = some (.slice L.lA L.logs.length L.lc) := by simp [World.cell?, hob7]
     have d2 : w7.cell? ⟨w6.heap.size, 2, none⟩ = some (.map L.asks) := by simp [World.cell?, hob7]
     have hz7 : w6.heap.size < w7.heap.size := by rw [hw7]; simp
     have HB7 := hide (Hb6.out.trans (hB67.mono (Nat.le_trans hs5 hs6)))
     have Hln7 := hide (Hln6.out.below hB67)
     rw [← hw7]
     clear hw7 hob7 hB67 c0 c1 c2 c3 c4 c5 c6
     go_wp2_with (first
      | (go_at_call 81; refine (Hkept2.out L HL6.out _ Hln7.out).mono ?_; rintro e w8 ⟨rfl, hb8⟩; have Hb8 := hide (HB7.out.trans (hb8.mono (Nat.le_trans (Nat.le_trans hs5 hs6) (Nat.le_of_lt hz7)))); have hs8 := hb8.size; clear hb8)
      | (go_at_call 39; refine (Hnum2.out _ w8.heap.size ((HBq.out.below Hb8.out).below (Below.alloc (Below.refl _ _) (Nat.le_refl _) _)) ((HT.out.below (HBwq.out.trans (Hb8.out.mono hNq)) hN).below (N := w8.heap.size) (Below.alloc (Below.refl _ _) (Nat.le_refl _) _) oM) oM (heap_new _ _ rfl)).mono ?_; rintro e w9 ⟨rfl, hB9, hE9⟩; have HB9 := hide hB9; have HE9 := hide ((HEq.out.trans (Ext.of (Hb8.out.trans ((Below.alloc (Below.refl _ _) (Nat.le_refl _) _).mono Hb8.out.size)) hNq)).trans hE9); clear hB9 hE9))
     exact ⟨⟨j + 1, by go_num, by omega, hide (by rw [flat_take (range_at hj1), ← List.append_assoc]; exact HB9.out), HE9⟩, by simp [intOf]; omega⟩
    ·obtain rfl : m.mem.vs.length = j := by omega
     go_wp2_with fail
     exact ⟨⟨k + 1, by go_num, by omega, hide (by rw [flat_take (zip_at Hgk.out)]; have q := HBq.out; rw [take_all List.length_range] at q; rw [show lineT m.mem.vs.length m.ak (g, k) = numsT [g.kept, (g.l.length : Int)] ++ (List.range m.mem.vs.length).flatMap (syncT m.ak k g) from rfl]; simpa only [List.append_assoc] using q), HEq⟩, by simp [intOf]; omega⟩
  ·obtain rfl : m.ln.logs.length = k := by omega
   go_wp2
   go_end0
   exact ⟨rfl, by have q := HB.out; rw [take_all List.length_zipIdx] at q; exact q, (Ext.of HB1.out hNw).trans HE.out⟩
end Go.Proofs.YtnnmenmifphadaaGreatDoor
