/- The search over worlds of rows: what Key and Outcome write, told by what shows. -/
import Derived.Test.YtfdndkgjmmeafaaGreatDoorG34
import Derived.Test.YtfdndkgjmmeafaaGreatDoorG44
namespace Go.Proofs.YtfdndkgjmmeafaaGreatDoor
set_option linter.unusedSimpArgs false
set_option linter.unusedVariables false
open Go.RowKit Go.Maps Go.Sort
def msgQ (L : Nat) (p : W3 × Int × (Int → Int)) : List UInt8 := rawT p.1 ++ numsT [p.2.1] ++ viewsT L p.2.2
def MW.memT (q : MW) : List UInt8 := q.hs.flatMap (fun l => l.flatMap (msgQ q.hs.length) ++ [47]) ++ q.vs.flatMap (viewsT q.hs.length)
def lineQ (th : Nat) (g : Int × List (Int × W3)) : List UInt8 := numsT [g.1, (g.2.length : Int)] ++ (List.replicate th (numsT [g.1])).flatten
def MW.lnT (q : MW) : List UInt8 := q.logs.flatMap (lineQ q.vs.length)
def RowP.done (r : RowP) : Bool := decide (r.l.length ≤ r.i)
def taskQ (p : RowP × List GS) : List UInt8 := [124] ++ numsT [bitI p.1.done, bitI false] ++ p.2.flatMap gotT
/-- What Key writes. -/
def PW.keyP (P : PW) : List UInt8 := P.q.memT ++ [124] ++ P.q.lnT ++ (P.rows.zip P.gots).flatMap taskQ
/-- The words. -/
def MW.words (q : MW) : List W3 := q.hs.map (fun l => ((l.getLast?).map Prod.fst).getD ⟨0, 0, 0⟩)
/-- What Outcome writes, if all words are plain and of version 0. -/
def PW.outP (P : PW) : List UInt8 := outT (fun x => Lib.itoa x.v) P.q.words P.gots
def W3.plain (x : W3) : Prop := (x.r = 0 ∧ x.f = 0) ∧ (-9223372036854775808 ≤ x.v ∧ x.v ≤ 9223372036854775807)
theorem W3.plain.okW {x : W3} (h : x.plain) : x.okW := by
  obtain ⟨⟨h1, h2⟩, h3⟩ := h
  exact ⟨h3, by omega, by omega⟩
/-- The bounds that the search wants. -/
structure MW.Fit (q : MW) : Prop where
  hs : 0 < q.hs.length ∧ q.hs.length ≤ 4096
  th : 0 < q.vs.length ∧ q.vs.length ≤ 8
  hl : ∀ l ∈ q.hs, (0 < l.length ∧ l.length ≤ 1000) ∧ ∀ p ∈ l, p.1.plain ∧ (0 ≤ p.2.1 ∧ p.2.1 ≤ 1000) ∧ ∀ z, p.2.2 z ≤ 1000000
  vl : ∀ f ∈ q.vs, ∀ z, 0 ≤ f z ∧ f z ≤ 1000000
  lg : q.logs.length = (q.hs.length + 7) / 8
  lgl : ∀ g ∈ q.logs, (0 ≤ g.1 ∧ g.1 ≤ 1000000) ∧ g.2.length ≤ 1000000
structure PW.Fit (P : PW) : Prop where
  q : P.q.Fit
  rg : P.rows.length = P.gots.length
  rt : P.rows.length ≤ P.q.vs.length
  gl : ∀ l ∈ P.gots, l.length ≤ 1000 ∧ ∀ g ∈ l, (W3.mk g.v g.r g.f).plain
  kl : P.keyP.length ≤ 140737488355328
  ol : P.outP.length ≤ 140737488355328
theorem flat_at {α β γ : Type} {f : α → List γ} {g : β → List γ} : ∀ {A : List α} {B : List β}, A.length = B.length → (∀ (i : Nat) a b, A[i]? = some a → B[i]? = some b → f a = g b) → A.flatMap f = B.flatMap g
  | [], [], _, _ => rfl
  | [], _ :: _, h, _ => by simp at h
  | _ :: _, [], h, _ => by simp at h
  | a :: A, b :: B, h, k => by
    rw [List.flatMap_cons, List.flatMap_cons, k 0 a b rfl rfl, flat_at (by simpa using h) (fun i x y hx hy => k (i + 1) x y (by simpa using hx) (by simpa using hy))]
theorem rowS_done (A : Option Addr) (cap : Nat) (l : List AS) (i : Nat) : (rowS A cap l i).2.2 = decide (l.length ≤ i) := by
  unfold rowS
  cases h : l[i]? with
  | some a => exact (decide_eq_false (by have := (List.getElem?_eq_some_iff.1 h).1; omega)).symm
  | none => exact (decide_eq_true (List.getElem?_eq_none_iff.1 h)).symm
theorem shows_memT {m : MachV} {q : MW} (h : MShows m q) : memoryT m.mem = q.memT := by
  have hl := map_len h.1
  unfold memoryT MW.memT
  rw [← hl, ← h.1, ← h.2.1, List.flatMap_map, List.flatMap_map]
  congr 1
  congr 1
  funext x
  unfold histT
  rw [List.flatMap_map]
  rfl
theorem shows_lnT {m : MachV} {q : MW} (h : MShows m q) : linesT m = q.lnT := by
  have hl := map_len h.2.1
  unfold linesT MW.lnT
  rw [← hl, ← h.2.2.1, List.flatMap_map]
  congr 1
theorem shows_keyT {V : WorldV} {P : PW} (h : Shows V P) (hg : P.rows.length = P.gots.length) : keyT V = P.keyP := by
  obtain ⟨h1, h2, h3, h4, h5⟩ := h
  unfold keyT PW.keyP
  rw [shows_memT h1, shows_lnT h1]
  congr 1
  refine flat_at (by rw [List.length_zip, List.length_zip, h3, List.length_replicate, h4, ← hg]) (fun i a b ha hb => ?_)
  obtain ⟨k, s⟩ := a
  obtain ⟨r, gl⟩ := b
  rw [List.getElem?_zip_eq_some] at ha hb
  obtain ⟨k1, k2⟩ := ha
  obtain ⟨r1, r2⟩ := hb
  have hs : s = false := by
    simp only at k2
    rw [h3, List.getElem?_replicate] at k2
    split at k2
    · injection k2 with k2; exact k2.symm
    · cases k2
  have hl : k.l = gl := by
    simp only at k1 r2
    rw [← h2, List.getElem?_map, k1] at r2
    injection r2
  have hd : k.done = r.done := (TS.done (h5 i k r k1 r1)).trans (rowS_done _ _ _ _)
  simp only [taskT, taskQ]
  rw [hd, hs, hl]
theorem shows_okK {V : WorldV} {P : PW} {w : World} (hR : V.R w) (h : Shows V P) (hf : P.Fit) : V.okK := by
  have hk := shows_keyT h hf.rg
  obtain ⟨⟨m1, m2, m3, m4, m5, m6⟩, h2, h3, h4, h5⟩ := h
  have l1 := map_len m1
  have l2 := map_len m2
  have l3 := map_len m3
  have q := hf.q
  have e1 := q.hs
  have e2 := q.th
  have e3 := hf.rt
  have e4 := q.lg
  refine ⟨⟨by omega, by omega, fun a ha => ?_, fun a ha z => (q.vl a.f (by rw [← m2]; exact List.mem_map_of_mem ha) z).2⟩, ⟨by omega, by omega, by omega, m5, fun g hg => q.lgl (logP g) (by rw [← m3]; exact List.mem_map_of_mem hg)⟩, by rw [h3, List.length_replicate]; exact h4, by omega, fun k hk' => ?_, by rw [hk]; exact hf.kl⟩
  · have ha' : a.l.map msgP ∈ P.q.hs := by rw [← m1]; exact List.mem_map_of_mem (f := fun h => h.l.map msgP) ha
    obtain ⟨⟨_, g1⟩, g2⟩ := q.hl _ ha'
    rw [List.length_map] at g1
    refine ⟨by omega, fun g hg => ?_⟩
    obtain ⟨p1, p2, p3⟩ := g2 (msgP g) (List.mem_map_of_mem hg)
    exact ⟨p1.okW, (by have := p2.1; have := p2.2; simp only [msgP] at *; omega), p3⟩
  · have hk2 : k.l ∈ P.gots := by rw [← h2]; exact List.mem_map_of_mem hk'
    obtain ⟨g1, g2⟩ := hf.gl _ hk2
    have hm : k.l.length = k.m := gots_length (hR.2.1.2.2.2 k hk').1
    exact ⟨by omega, fun g hg => (g2 g hg).okW⟩
end Go.Proofs.YtfdndkgjmmeafaaGreatDoor

namespace Go.Proofs.YtfdndkgjmmeafaaGreatDoor
set_option linter.unusedSimpArgs false
set_option linter.unusedVariables false
open Go.RowKit Go.Maps Go.Sort
/-- How many choices a thread has. -/
def PW.ch (P : PW) (t : Nat) : Nat := match P.rows[t]? with
  | none => 0
  | some r => match r.l[r.i]? with
    | none => 0
    | some a => if a.o = 1 then (chN (P.q.hs.getD a.l.toNat []).length (P.q.vs.getD t (fun _ => 0) a.l)).toNat else 1
def PW.cs (P : PW) : List Nat := (List.range P.rows.length).map P.ch
/-- What a Load or a Store of the t-th thread does: what the machine shows, the result. -/
def MW.act (q : MW) (t : Nat) (a : AS) (c : Nat) : MW × W3 × Bool :=
  if a.o = 1 then
    (q.load t (withF (q.vs.getD t (fun _ => 0)) a.l (chooseL (q.hs.getD a.l.toNat []).length (q.vs.getD t (fun _ => 0) a.l) c).toNat), ((q.hs.getD a.l.toNat []).getD (chooseL (q.hs.getD a.l.toNat []).length (q.vs.getD t (fun _ => 0) a.l) c).toNat (⟨0, 0, 0⟩, 0, fun _ => 0)).1, true)
  else (q.store t a.l.toNat (q.hs.getD a.l.toNat []) (q.vs.getD t (fun _ => 0)) ⟨a.v2, a.r2, a.f2⟩ (q.logs.getD (a.l.toNat / 8) (0, [])), ⟨0, 0, 0⟩, true)
/-- What a step leads to. -/
def PW.next (P : PW) (s : Nat × Nat) : PW := match P.rows[s.1]? with
  | none => P
  | some r => match r.l[r.i]? with
    | none => P
    | some a => P.step s.1 (P.q.act s.1 a s.2).1 r (P.gots.getD s.1 []) ⟨(P.q.act s.1 a s.2).2.1.v, (P.q.act s.1 a s.2).2.1.r, (P.q.act s.1 a s.2).2.1.f, (P.q.act s.1 a s.2).2.2⟩
def ActOk (L : Nat) (a : AS) : Prop := (a.o = 1 ∨ a.o = 3) ∧ 0 ≤ a.l ∧ a.l < (L : Int)
def RowsB (B0 : Nat) (w : World) (P : PW) : Prop := ∀ r ∈ P.rows, Rd w B0 8 r.A r.l.length (r.l.flatMap actc)
/-- The kind of worlds: rows of acts, of which Ok tells what is lasting. -/
def rowsE (Ok : PW → Prop) (B0 : Nat) : Expl PW where
  Rep := fun V P => Shows V P ∧ V.M.mem.hs.length ≤ 4096
  Inv := fun w P => Ok P ∧ RowsB B0 w P ∧ Tab w ∧ B0 ≤ w.heap.size
  key := PW.keyP
  out := PW.outP
  cs := PW.cs
  next := PW.next
theorem getD_at {α : Type} {l : List α} {i : Nat} {a d : α} (h : l[i]? = some a) : l.getD i d = a := by
  rw [List.getD_eq_getElem?_getD, h]
  rfl
theorem cs_at {P : PW} {t : Nat} (h : t < P.rows.length) : P.cs[t]? = some (P.ch t) := by
  unfold PW.cs
  rw [List.getElem?_map, List.getElem?_range h]
  rfl
theorem cs_len (P : PW) : P.cs.length = P.rows.length := by simp [PW.cs]
theorem cs_getD (P : PW) (t : Nat) : P.cs.getD t 0 = P.ch t := by
  rw [List.getD_eq_getElem?_getD]
  by_cases h : t < P.rows.length
  · rw [cs_at h]; rfl
  · rw [List.getElem?_eq_none_iff.2 (by rw [cs_len]; omega)]
    unfold PW.ch
    rw [List.getElem?_eq_none_iff.2 (by omega)]
    rfl
theorem stp_mem {P : PW} {k : Nat} {s : Nat × Nat} (h : s ∈ stpTo P.cs k) : s.2 < P.ch s.1 := by
  unfold stpTo at h
  rw [List.mem_flatMap] at h
  obtain ⟨t, _, h2⟩ := h
  rw [List.mem_map] at h2
  obtain ⟨c, h3, rfl⟩ := h2
  rw [List.mem_range, cs_getD] at h3
  exact h3
theorem stp_len {cs : List Nat} {n : Nat} (h : ∀ x ∈ cs, x ≤ n) (k : Nat) : (stpTo cs k).length ≤ n * min k cs.length := by
  induction k with
  | zero => simp [stpTo]
  | succ k ih =>
    rw [stpTo_succ, List.length_append, List.length_map, List.length_range]
    by_cases hk : k < cs.length
    · have h1 : cs.getD k 0 ≤ n := by
        rw [List.getD_eq_getElem?_getD, List.getElem?_eq_getElem hk]
        exact h _ (List.getElem_mem hk)
      rw [show min (k + 1) cs.length = min k cs.length + 1 by omega, Nat.mul_succ]
      omega
    · rw [List.getD_eq_getElem?_getD, List.getElem?_eq_none_iff.2 (by omega), show min (k + 1) cs.length = min k cs.length by omega]
      exact ih
theorem vs_at {q : MW} (hf : q.Fit) (t : Nat) (z : Int) : 0 ≤ q.vs.getD t (fun _ => 0) z ∧ q.vs.getD t (fun _ => 0) z ≤ 1000000 := by
  rw [List.getD_eq_getElem?_getD]
  cases h : q.vs[t]? with
  | none => simp
  | some f => exact hf.vl f (List.mem_of_getElem? h) z
theorem hs_at {q : MW} (hf : q.Fit) (k : Nat) : (q.hs.getD k []).length ≤ 1000 := by
  rw [List.getD_eq_getElem?_getD]
  cases h : q.hs[k]? with
  | none => simp
  | some l => exact (hf.hl l (List.mem_of_getElem? h)).1.2
theorem ch_le {P : PW} (hf : P.Fit) (t : Nat) : P.ch t ≤ 1000 := by
  unfold PW.ch
  split
  · omega
  · split
    · omega
    · split
      · rename_i r _ a _ _
        have h1 := hs_at hf.q a.l.toNat
        have h2 := vs_at hf.q t a.l
        unfold chN
        omega
      · omega
theorem cs_le {P : PW} (hf : P.Fit) : ∀ x ∈ P.cs, x ≤ 1000 := by
  intro x hx
  unfold PW.cs at hx
  rw [List.mem_map] at hx
  obtain ⟨t, _, rfl⟩ := hx
  exact ch_le hf t
theorem steps_le {P : PW} (hf : P.Fit) (k : Nat) : (stpTo P.cs k).length ≤ 1000000 := by
  have h1 := stp_len (cs_le hf) k
  rw [cs_len] at h1
  have h2 := hf.rt
  have h3 := hf.q.th
  omega
/-- The thread that takes a step: its row, its act, its results. -/
theorem step_parts {P : PW} {s : Nat × Nat} (hf : P.Fit) (h : s.2 < P.ch s.1) : ∃ r a gl, P.rows[s.1]? = some r ∧ r.l[r.i]? = some a ∧ P.gots[s.1]? = some gl ∧ P.next s = P.step s.1 (P.q.act s.1 a s.2).1 r gl ⟨(P.q.act s.1 a s.2).2.1.v, (P.q.act s.1 a s.2).2.1.r, (P.q.act s.1 a s.2).2.1.f, (P.q.act s.1 a s.2).2.2⟩ ∧ P.ch s.1 = if a.o = 1 then (chN (P.q.hs.getD a.l.toNat []).length (P.q.vs.getD s.1 (fun _ => 0) a.l)).toNat else 1 := by
  unfold PW.ch at h
  unfold PW.next PW.ch
  cases hr : P.rows[s.1]? with
  | none => rw [hr] at h; simp at h
  | some r =>
    rw [hr] at h
    simp only at h
    cases ha : r.l[r.i]? with
    | none => rw [ha] at h; simp at h
    | some a =>
      have hlt : s.1 < P.gots.length := by rw [← hf.rg]; exact (List.getElem?_eq_some_iff.1 hr).1
      refine ⟨r, a, P.gots[s.1], rfl, ha, List.getElem?_eq_getElem hlt, ?_, ?_⟩
      · simp only [ha]
        rw [getD_at (List.getElem?_eq_getElem hlt)]
      · simp only [ha]
theorem choose_in {n : Nat} {i c : Int} (hn : 0 < n) (hi : 0 ≤ i) : 0 ≤ chooseL n i c ∧ chooseL n i c < n := by
  unfold chooseL
  simp only
  generalize hm : ((n : Int) - 1 - max 0 (min i ((n : Int) - 1)) + 1) = m
  have h1 : 0 < m := by omega
  have h2 := Int.emod_nonneg (max c 0) (by omega : m ≠ 0)
  have h3 := Int.emod_lt_of_pos (max c 0) h1
  omega
theorem do_act (m : MachV) (q : MW) (t : Nat) (c : Nat) (a : AS) (W : World) (hR : m.R W) (hQ : MShows m q) (hf : q.Fit) (ha : ActOk q.hs.length a) (ht : t < q.vs.length) (hc : c ≤ 1000) :
    Calls Tryz.prog 108 #[.agg #[.slice (m).mem.pA (m).mem.hs.length (m).mem.pc, .slice (m).mem.vA (m).mem.vs.length (m).mem.vc, .slice (m).ln.fA (m).ln.first.length (m).ln.fc, .slice (m).ln.lA (m).ln.logs.length (m).ln.lc, .map (m).ln.asks, .slice (m).sA (m).steps.length (m).sc, .int .i64 (m).crashes], .int .i64 ((t : Int) + 1), .agg #[.int .i64 (a).o, .int .i64 (a).l, .int .i64 (a).v, .int .u32 (a).r, .int .u32 (a).f, .int .i64 (a).v2, .int .u32 (a).r2, .int .u32 (a).f2], .int .i64 c] W fun e w' => ∃ (m2 : MachV) (y : W3) (ok : Bool), e = .returned (.tuple #[.agg #[.slice (m2).mem.pA (m2).mem.hs.length (m2).mem.pc, .slice (m2).mem.vA (m2).mem.vs.length (m2).mem.vc, .slice (m2).ln.fA (m2).ln.first.length (m2).ln.fc, .slice (m2).ln.lA (m2).ln.logs.length (m2).ln.lc, .map (m2).ln.asks, .slice (m2).sA (m2).steps.length (m2).sc, .int .i64 (m2).crashes], .agg #[.int .i64 y.v, .int .u32 y.r, .int .u32 y.f, .bool ok], .int .i64 0]) ∧ (MShows m2 (q.act t a c).1 ∧ y = (q.act t a c).2.1 ∧ ok = (q.act t a c).2.2) ∧ m2.R w' ∧ (∀ C, C < W.heap.size → m.off C → m2.off C) ∧ Below W.heap.size W w' := by
  obtain ⟨ho, h0, h1⟩ := ha
  obtain ⟨o, l, v1, r1, f1, v2, r2, f2⟩ := a
  simp only at ho h0 h1
  obtain ⟨k, rfl⟩ : ∃ k : Nat, l = k := ⟨l.toNat, by omega⟩
  have hk : k < q.hs.length := by omega
  have g1 := List.getElem?_eq_getElem hk
  have g2 := List.getElem?_eq_getElem ht
  obtain ⟨hl0, hl1⟩ := (hf.hl _ (List.getElem_mem hk)).1
  have hvl := hf.vl _ (List.getElem_mem ht) (k : Int)
  have e1 : (k : Int).toNat = k := by omega
  have hth := hf.th
  have hhs := hf.hs
  unfold MW.act
  simp only [e1]
  rw [getD_at g1, getD_at g2]
  rcases ho with rfl | rfl
  · rw [if_pos rfl]
    have hci := choose_in (n := q.hs[k].length) (i := q.vs[t] k) (c := c) hl0 hvl.1
    have g3 := List.getElem?_eq_getElem (l := q.hs[k]) (i := (chooseL q.hs[k].length (q.vs[t] k) c).toNat) (by omega)
    rw [getD_at g3]
    exact do_load m q t k _ c ⟨1, k, ⟨v1, r1, f1⟩, ⟨v2, r2, f2⟩⟩ q.hs[k] _ _ _ q.vs[t] W hR hQ rfl rfl g1 (by omega) g3 g2 (by omega) (by omega) (by omega) (WalkArith.wf_i64 (by omega))
  · rw [if_neg (by decide)]
    have hlg : k / 8 < q.logs.length := by rw [hf.lg]; omega
    have g4 := List.getElem?_eq_getElem hlg
    rw [getD_at g4]
    have hlo := hf.lg
    exact do_store m q t k c ⟨3, k, ⟨v1, r1, f1⟩, ⟨v2, r2, f2⟩⟩ q.hs[k] q.vs[t] q.logs[k / 8] W hR hQ rfl rfl g1 g2 g4 (by omega) (by omega) (by omega) (by omega) (hf.lgl _ (List.getElem_mem hlg)).2
theorem rows_next {P : PW} {s : Nat × Nat} (hf : P.Fit) (h : s.2 < P.ch s.1) {B0 : Nat} {w : World} (hr : RowsB B0 w P) : RowsB B0 w (P.next s) := by
  obtain ⟨r, a, gl, h1, h2, h3, h4, _⟩ := step_parts hf h
  rw [h4]
  intro r' hr'
  have hr2 : r' ∈ P.rows.set s.1 ⟨r.A, r.cap, r.l, r.i + 1⟩ := hr'
  rcases List.mem_or_eq_of_mem_set hr2 with hm | rfl
  · exact hr r' hm
  · exact hr r (List.mem_of_getElem? h1)
theorem words_at {m : MachV} {q : MW} (h : MShows m q) (hf : q.Fit) {k : Nat} {x : W3} (hx : q.words[k]? = some x) : ∃ (hi : HistV) (j : Nat) (g : MsgV), m.mem.hs[k]? = some hi ∧ hi.l.length = j + 1 ∧ j ≤ 1000000 ∧ hi.l[j]? = some g ∧ g.x = x ∧ x.plain := by
  unfold MW.words at hx
  rw [List.getElem?_map, Option.map_eq_some_iff] at hx
  obtain ⟨l, hl, e⟩ := hx
  obtain ⟨hi, hh, hl2⟩ := map_at h.1 hl
  obtain ⟨⟨n0, n1⟩, hp⟩ := hf.hl l (List.mem_of_getElem? hl)
  have hlen : hi.l.length = l.length := map_len hl2
  have hj : l.length - 1 < hi.l.length := by omega
  refine ⟨hi, l.length - 1, hi.l[l.length - 1], hh, by omega, by omega, List.getElem?_eq_getElem hj, ?_, ?_⟩
  · have e9 : (hi.l.map msgP)[l.length - 1]? = some (msgP hi.l[l.length - 1]) := by rw [List.getElem?_map, List.getElem?_eq_getElem hj]; rfl
    rw [hl2] at e9
    rw [← e, List.getLast?_eq_getElem?, e9]
    rfl
  · rw [← e, List.getLast?_eq_getElem?, List.getElem?_eq_getElem (show l.length - 1 < l.length by omega)]
    exact (hp _ (List.getElem_mem (show l.length - 1 < l.length by omega))).1
theorem words_plain {q : MW} (hf : q.Fit) : ∀ x ∈ q.words, x.plain := by
  intro x hx
  unfold MW.words at hx
  rw [List.mem_map] at hx
  obtain ⟨l, hl, e⟩ := hx
  obtain ⟨⟨n0, n1⟩, hp⟩ := hf.hl l hl
  rw [← e, List.getLast?_eq_getElem?, List.getElem?_eq_getElem (show l.length - 1 < l.length by omega)]
  exact (hp _ (List.getElem_mem (show l.length - 1 < l.length by omega))).1
theorem pend_row {V : WorldV} {P : PW} (hS : Shows V P) (hf : P.Fit) (hacts : ∀ r ∈ P.rows, ∀ a ∈ r.l, ActOk P.q.hs.length a) (k n : Nat) (hn : P.cs[k]? = some n) : ∃ a, Pend V k n a := by
  have hk : k < P.rows.length := by have := (List.getElem?_eq_some_iff.1 hn).1; rwa [cs_len] at this
  rw [cs_at hk] at hn
  injection hn with hn
  obtain ⟨s1, s2, s3, s4, s5⟩ := hS
  obtain ⟨m1, m2, m3, m4, m5, m6⟩ := s1
  have hth := hf.q.th
  have hrt := hf.rt
  have hhs := hf.q.hs
  have hr := List.getElem?_eq_getElem hk
  have hkt : k < V.ts.length := by omega
  have hkk := List.getElem?_eq_getElem hkt
  have hss : V.ss[k]? = some false := by rw [s3, List.getElem?_replicate, if_pos hk]
  have hrow := s5 k _ _ hkk hr
  cases ha : (P.rows[k]).l[(P.rows[k]).i]? with
  | none =>
    have h0 : n = 0 := by rw [← hn]; unfold PW.ch; rw [hr]; simp only [ha]
    subst h0
    refine ⟨V.ts[k].a, fun W hR => ?_, fun h => absurd h (Nat.lt_irrefl 0)⟩
    refine ex_pending V k _ false W hR hkk (by omega) hss (fun W2 => ?_)
    have hd : (rowS (P.rows[k]).A (P.rows[k]).cap (P.rows[k]).l (P.rows[k]).i).2.2 = true := by unfold rowS; rw [ha]
    unfold RT at hrow
    rw [hd] at hrow
    obtain ⟨h1, ⟨h2, _, _⟩ | ⟨_, h3, h4⟩⟩ := hrow
    · cases h2
    · have q := act_yes (V.ts[k]).c (V.ts[k]).a (V.ts[k]).A (V.ts[k]).m (V.ts[k]).cp W2
      rw [h4]
      exact q
  | some a =>
    obtain ⟨ho, ha0, ha1⟩ := hacts _ (List.getElem_mem hk) a (List.mem_of_getElem? ha)
    have hch : n = if a.o = 1 then (chN (P.q.hs.getD a.l.toNat []).length (P.q.vs.getD k (fun _ => 0) a.l)).toNat else 1 := by
      rw [← hn]
      unfold PW.ch
      rw [hr]
      simp only [ha]
    have hpos : 0 < n := by
      rw [hch]
      split
      · unfold chN; omega
      · omega
    have hka := fun W => (rt_act hrow ha W)
    refine ⟨a, fun W hR => ?_, fun _ W hR => ?_⟩
    · rw [decide_eq_true hpos]
      have q := ex_pending V k _ true W hR hkk (by omega) hss (fun W2 => (hka W2).2)
      rw [(hka W).1] at q
      exact q
    · rw [hch]
      have l1 := map_len m1
      have l2 := map_len m2
      by_cases h1 : a.o = 1
      · rw [if_pos h1]
        have hkl : a.l.toNat < P.q.hs.length := by omega
        have hkv : k < P.q.vs.length := by omega
        have g1 := List.getElem?_eq_getElem hkl
        have g2 := List.getElem?_eq_getElem hkv
        obtain ⟨h, hh, e1⟩ := map_at m1 g1
        obtain ⟨v, hv, e2⟩ := map_at m2 g2
        have hvl := hf.q.vl _ (List.getElem_mem hkv)
        have l3 := map_len e1
        obtain ⟨hl0, hl1⟩ := (hf.q.hl _ (List.getElem_mem hkl)).1
        have q := ex_choices_load V.M k a.l.toNat h v a W hR.1 h1 (by omega) hh hv (by omega) (by omega) (by omega) (fun z => by rw [e2]; exact (hvl z).2)
        rw [getD_at g1, getD_at g2, ← l3, ← e2]
        have e3 : ((a.l.toNat : Nat) : Int) = a.l := by omega
        rw [e3] at q
        have e4 : (((chN h.l.length (v.f a.l)).toNat : Nat) : Int) = chN h.l.length (v.f a.l) := by
          unfold chN
          omega
        rw [e4]
        exact q
      · rw [if_neg h1]
        exact ex_choices_one V.M _ a W h1 (by rcases ho with h | h <;> omega)
theorem rows_ok (Ok : PW → Prop) (B0 : Nat) (hB : 0 < B0)
    (hfit : ∀ P, Ok P → P.Fit ∧ ∀ r ∈ P.rows, (r.l.length ≤ 100 ∧ r.i ≤ r.l.length) ∧ ∀ a ∈ r.l, ActOk P.q.hs.length a)
    (hnext : ∀ P s, Ok P → s ∈ stpTo P.cs P.cs.length → Ok (P.next s)) : ExplOK (rowsE Ok B0) B0 where
  inv := fun ⟨h1, h2, h3, h4⟩ hb => ⟨h1, fun r hr => (h2 r hr).below hb, h3.below hb hB, Nat.le_trans h4 hb.size⟩
  invn := fun ⟨h1, h2, h3, h4⟩ hs => ⟨hnext _ _ h1 hs, rows_next (hfit _ h1).1 (stp_mem hs) h2, h3, h4⟩
  sz := fun h => h.2
  keyl := fun h => (hfit _ h.1).1.kl
  outl := fun h => (hfit _ h.1).1.ol
  stepl := fun h => steps_le (hfit _ h.1).1 _
  key := fun {V P w} hR hRep hInv => by
    have hf := (hfit _ hInv.1).1
    have q := ex_key V w hR hInv.2.2.1 (Nat.lt_of_lt_of_le hB hInv.2.2.2) (shows_okK hR hRep.1 hf)
    rw [shows_keyT hRep.1 hf.rg] at q
    exact q
  out := fun {V P w} hR hRep hInv => by
    obtain ⟨hS, hL⟩ := hRep
    obtain ⟨hOk, hRows, hT, hB1⟩ := hInv
    have hf := (hfit _ hOk).1
    have hw := words_plain hf.q
    have hwl : P.q.words.length = V.M.mem.hs.length := by
      have := map_len hS.1.1
      simp only [MW.words, List.length_map]
      omega
    have hhs := hf.q.hs
    have l1 := map_len hS.1.1
    have hth := hf.q.th
    have hrt := hf.rt
    have q := ex_outcome (fun x => Lib.itoa x.v) W3.plain V P.q.words w hR (fun W hW => mach_words V.M P.q.words W (hR.below hW).1.1 hwl (by omega) (fun k x hx W2 hR2 => by
        obtain ⟨hi, j, g, g1, g2, g3, g4, rfl, _⟩ := words_at hS.1 hf.q hx
        exact mach_word V.M k j hi g W2 hR2 g1 g2 g3 g4)) (by omega) (by omega)
      (fun x hx W hW => text_plain x W hx.1.1 hx.1.2 hx.2.1 hx.2.2 (hT.below hW (Nat.lt_of_lt_of_le hB hB1)) (Nat.lt_of_lt_of_le (Nat.lt_of_lt_of_le hB hB1) hW.size)) hw
      (fun k hk g hg => (hf.gl k.l (by rw [← hS.2.1]; exact List.mem_map_of_mem hk)).2 g hg) (by rw [hS.2.2.2.1]; omega)
      (fun k hk => by
        have hm : k.l.length = k.m := gots_length (hR.2.1.2.2.2 k hk).1
        have := (hf.gl k.l (by rw [← hS.2.1]; exact List.mem_map_of_mem hk)).1
        omega) (by rw [hS.2.1]; exact hf.ol)
    rw [hS.2.1] at q
    exact q
  steps := fun {V P w} hR hRep hInv => by
    obtain ⟨hS, hL⟩ := hRep
    have hf := (hfit _ hInv.1).1
    have hth := hf.q.th
    have hrt := hf.rt
    have e := hS.2.2.2.1
    have q := ex_steps V P.cs w hR (by rw [cs_len, e]) (by omega) (steps_le hf) (pend_row hS hf (fun r hr => ((hfit _ hInv.1).2 r hr).2))
    have q2 : stpTo P.cs V.ts.length = stpTo P.cs P.cs.length := by rw [e, cs_len]
    rw [q2] at q
    exact q
  after := fun {V P w s} hR hRep hInv hs => by
    obtain ⟨hS, hL⟩ := hRep
    obtain ⟨hOk, hRows, hT, hB1⟩ := hInv
    obtain ⟨hf, hrs⟩ := hfit _ hOk
    have hlt := stp_mem hs
    obtain ⟨r, a, gl, h1, h2, h3, h4, _⟩ := step_parts hf hlt
    have hcl := ch_le hf s.1
    have hr1 := (List.getElem?_eq_some_iff.1 h1).1
    have hth := hf.q.th
    have hrt := hf.rt
    have hact := (hrs r (List.mem_of_getElem? h1)).2 a (List.mem_of_getElem? h2)
    have hhs : ((P.next s).q.hs).length = P.q.hs.length := by
      rw [h4]
      show ((P.q.act s.1 a s.2).1.hs).length = _
      unfold MW.act
      split
      · rfl
      · exact List.length_set
    refine (ex_after V s.1 s.2 w (fun V2 => Shows V2 (P.next s)) hR (fun W hW hR2 => ?_)).mono ?_
    · rw [h4]
      exact step_row V P W s.1 s.2 r a gl _ (P.q.act s.1 a s.2).2.1 (P.q.act s.1 a s.2).2.2 hR2 hS (fun r' hr' => ⟨((hRows r' hr').below (hW.mono hB1)).more (Nat.le_trans hB1 hW.size), by have := (hrs r' hr').1; omega⟩) h1 h2 h3 (by omega) (by omega) (by have := (hf.gl gl (List.mem_of_getElem? h3)).1; omega) (fun W2 hR3 => do_act V.M P.q s.1 s.2 a W2 hR3 hS.1 hf.q hact (by omega) (by omega))
    · rintro e w' ⟨V2, rfl, hS2, hR2, _, hb⟩
      exact ⟨V2, rfl, ⟨hS2, by have := map_len hS2.1.1; have := map_len hS.1.1; omega⟩, hR2, hb⟩
end Go.Proofs.YtfdndkgjmmeafaaGreatDoor

namespace Go.Proofs.YtfdndkgjmmeafaaGreatDoor
set_option linter.unusedSimpArgs false
set_option linter.unusedVariables false
open Go.RowKit Go.Maps Go.Sort
theorem info_code59 : (Tryz.prog.info? 76).map (fun i => (i.zero, i.size, i.bytes)) = some (some .nilIface, 1, 16) := by kernel_rfl
/-- The rows of acts, given. -/
structure ActsV where
  A : Nat → Option Addr
  c : Nat → Nat
  l : Nat → List AS
def ActsV.sl (x : ActsV) (k : Nat) : Value := .slice (x.A k) (x.l k).length (x.c k)
def ActsV.cv (x : ActsV) (k : Nat) : Value := .iface 60 (rowV (x.A k) (x.l k).length (x.c k) 0)
def ActsV.tot (x : ActsV) (k : Nat) : Nat := ((List.range k).map (fun j => (x.l j).length)).sum
theorem ActsV.tot_succ (x : ActsV) (k : Nat) : x.tot (k + 1) = x.tot k + (x.l k).length := by
  unfold ActsV.tot
  rw [List.range_succ, List.map_append, List.sum_append]
  simp
def ActsV.R (w : World) (B : Nat) (x : ActsV) : Prop := ∀ k, k < 3 → Rd w B 8 (x.A k) (x.l k).length ((x.l k).flatMap actc)
/-- The world that is made, as it shows. -/
def PW0 (ws : List W3) (x : ActsV) : PW := ⟨⟨ws.map (fun y => [(y, 0, fun _ => 0)]), List.replicate 3 (fun _ => 0), List.replicate ((ws.length + 7) / 8) (0, [])⟩, (List.range 3).map (fun k => ⟨x.A k, x.c k, x.l k, 0⟩), List.replicate 3 []⟩
theorem fresh_shows {M : MachV} {ws : List W3} (h : M.fresh 3 ws) (x : ActsV) : MShows M (PW0 ws x).q := by
  obtain ⟨h1, h2, h3, h4, h5, h6, h7⟩ := h
  refine ⟨?_, ?_, ?_, ?_, h5, ?_⟩
  · show M.mem.hs.map (fun h => h.l.map msgP) = ws.map (fun y => [(y, 0, fun _ => 0)])
    rw [show (fun h : HistV => h.l.map msgP) = (fun l => l.map msgP) ∘ HistV.l from rfl, ← List.map_map, h1, List.map_map]
    rfl
  · rw [h2]; rfl
  · rw [h4, List.map_replicate]; rfl
  · rw [h3]; simp [PW0]
  · rw [h6]; simp [PW0]
set_option maxHeartbeats 8000000 in
set_option maxRecDepth 100000 in
theorem world_ok (A : Option Addr) (n cap : Nat) (ws : List W3) (x : ActsV) (w : World) (hw : ws.length = n) (hr : Rd w w.heap.size 3 A n (ws.flatMap w3c)) (hx : x.R w w.heap.size) (h4 : ∀ k, k < 3 → (x.l k).length ≤ 4) (h7 : x.tot 3 ≤ 7) (hn1 : 1 ≤ n) (hn2 : n ≤ 12) :
    Calls Tryz.prog 7 #[.slice A n cap, .agg #[x.sl 0, x.sl 1, x.sl 2]] w fun e w' => ∃ V : WorldV, e = .returned (.tuple #[(.agg #[.slice ((V).M).mem.pA ((V).M).mem.hs.length ((V).M).mem.pc, .slice ((V).M).mem.vA ((V).M).mem.vs.length ((V).M).mem.vc, .slice ((V).M).ln.fA ((V).M).ln.first.length ((V).M).ln.fc, .slice ((V).M).ln.lA ((V).M).ln.logs.length ((V).M).ln.lc, .map ((V).M).ln.asks, .slice ((V).M).sA ((V).M).steps.length ((V).M).sc, .int .i64 ((V).M).crashes, .slice (V).tA (V).ts.length (V).tc, .slice (V).sA (V).ss.length (V).sc]), .bool true]) ∧ Shows V (PW0 ws x) ∧ V.R w' ∧ Below w.heap.size w w' := by
  obtain ⟨i0, hi0, jz0, jz1, jz2⟩ := info_parts info_code59
  have hi := hide hi0
  have iz0 := hide jz0
  have iz1 := hide jz1
  have iz2 := hide jz2
  obtain ⟨k0, p0, q0⟩ := rt_start (x.A 0) (x.c 0) (x.l 0) w (hx 0 (by omega))
  obtain ⟨k1, p1, q1⟩ := rt_start (x.A 1) (x.c 1) (x.l 1) w (hx 1 (by omega))
  obtain ⟨k2, p2, q2⟩ := rt_start (x.A 2) (x.c 2) (x.l 2) w (hx 2 (by omega))
  have hst : ∀ (j : Nat) (c : Value) (k : TaskV) (W : World), ((List.range 3).map x.cv)[j]? = some c → [k0, k1, k2][j]? = some k → Below w.heap.size w W → Calls Tryz.prog 23 #[c] W fun e w' => e = .returned (.agg #[k.c, k.nx, .int .i64 k.a.o, .int .i64 k.a.l, .int .i64 k.a.v, .int .u32 k.a.r, .int .u32 k.a.f, .int .i64 k.a.v2, .int .u32 k.a.r2, .int .u32 k.a.f2, .slice k.A k.m k.cp]) ∧ Below W.heap.size W w' := by
    intro j c k W hc hk hW
    match j, hc, hk with
    | 0, hc, hk => injection hc with hc; injection hk with hk; subst hc hk; exact q0 W hW
    | 1, hc, hk => injection hc with hc; injection hk with hk; subst hc hk; exact q1 W hW
    | 2, hc, hk => injection hc with hc; injection hk with hk; subst hc hk; exact q2 W hW
    | j + 3, hc, hk => cases hk
  have hks : ∀ k ∈ [k0, k1, k2], k.ok ∧ k.A = none ∧ k.m = 0 ∧ k.cp = 0 ∧ k.l = [] := by
    intro k hk
    simp only [List.mem_cons, List.not_mem_nil, or_false] at hk
    rcases hk with rfl | rfl | rfl
    · exact ⟨TS.ok p0.1, p0.2⟩
    · exact ⟨TS.ok p1.1, p1.2⟩
    · exact ⟨TS.ok p2.1, p2.2⟩
  have hmk := fun (M : MachV) (A : Option Addr) (cap : Nat) (W : World) (hR : M.R W) (hth : 3 ≤ M.mem.vs.length) (hr : Rd W W.heap.size 1 A 3 ((List.range 3).map x.cv)) (hW : Below w.heap.size w W) => task_make M A 3 cap ((List.range 3).map x.cv) [k0, k1, k2] W hR hth (by omega) (by omega) hr rfl hks (fun j c k W2 hc hk h2 => hst j c k W2 hc hk (hW.trans (h2.mono hW.size)))
  have hnw := fun W (h : Below w.heap.size w W) => mach_new 3 n A cap ws W hw ((hr.below h).more h.size) (by omega) (by omega) hn1 (by omega)
  have hsh : ∀ V : WorldV, V.M.fresh 3 ws → V.ts = [k0, k1, k2] → V.ss = List.replicate 3 false → Shows V (PW0 ws x) := by
    intro V hf ht hs
    refine ⟨fresh_shows hf x, ?_, hs, by rw [ht]; rfl, ?_⟩
    · rw [ht]
      show [k0.l, k1.l, k2.l] = [[], [], []]
      rw [p0.2.2.2.2, p1.2.2.2.2, p2.2.2.2.2]
    · intro t k r hk hr
      rw [ht] at hk
      match t, hk, hr with
      | 0, hk, hr => injection hk with hk; injection hr with hr; subst hk hr; exact p0.1
      | 1, hk, hr => injection hk with hk; injection hr with hr; subst hk hr; exact p1.1
      | 2, hk, hr => injection hk with hk; injection hr with hr; subst hk hr; exact p2.1
      | t + 3, hk, hr => cases hk
  have Hmk := hide hmk
  have Hnw := hide hnw
  have Hsh := hide hsh
  have g0 : (n : Int) ≠ 0 := by omega
  have g0' : ((n : Int) == 0) = false := by simpa using g0
  have g1 : ¬ ((n : Int) > 12) := by omega
  have g1' : ¬ ((12 : Int) < n) := by omega
  have H4 := hide h4
  have h7' : ¬ ((x.tot 3 : Int) > 7) := by omega
  have H7 := hide h7'
  clear hr hx p0 p1 p2 q0 q1 q2 hst hks hmk hnw hsh hw h4 h7 h7' hi0 jz0 jz1 jz2
  go_enter Tryz.func7, Tryz.ntmps7
  go_wp2_with fail
  obtain ⟨w1, hw1⟩ : ∃ W : World, W = (w.alloc (.cells #[x.sl 0, x.sl 1, x.sl 2] 50)).alloc (.cells #[.slice none 0 0, .slice none 0 0, .slice none 0 0, .slice none 0 0, .map none, .slice none 0 0, .int .i64 0, .slice none 0 0, .slice none 0 0] 46) := ⟨_, rfl⟩
  have hB1 : Below w.heap.size w w1 := by rw [hw1]; exact ab0
  have hs1 : w.heap.size + 1 + 1 ≤ w1.heap.size := by rw [hw1]; simp
  have hC : BoxC (w.heap.size + 1) [.slice none 0 0, .slice none 0 0, .slice none 0 0, .slice none 0 0, .map none, .slice none 0 0, .int .i64 0, .slice none 0 0, .slice none 0 0] w1 := by rw [hw1]; have q := BoxC.made (w.alloc (.cells #[x.sl 0, x.sl 1, x.sl 2] 50)) #[.slice none 0 0, .slice none 0 0, .slice none 0 0, .slice none 0 0, .map none, .slice none 0 0, .int .i64 0, .slice none 0 0, .slice none 0 0] 46; simpa using q
  have HC := hide hC
  clear hC
  rw [← hw1]
  clear hw1
  go_loopw [15, 6, 7] (fun i m v wr => ∃ (k : Nat) (z : Int), i = .int .i64 z ∧ z = k ∧ k ≤ 3 ∧ m = .int .i64 (x.tot k) ∧ wr.ownsRow w1.heap.size 76 1 v k ((List.range k).map x.cv) ∧ Hid (Below w1.heap.size w1 wr)) (fun i _ _ _ => 3 - (intOf i).toNat)
  case atStart => exact ⟨0, 0, rfl, rfl, by omega, rfl, World.ownsRow_nil _ _ _ _, hide (Below.refl _ _)⟩
  case round =>
    obtain ⟨k, z, rfl, hz, hk, rfl, hown, HB⟩ := hrel
    by_cases hlt : z < 3
    · have hk3 : k < 3 := by omega
      have hle : ¬ (((x.l k).length : Int) > 4) := by have := H4.out k hk3; omega
      have hle' : ¬ ((4 : Int) < ((x.l k).length : Int)) := by have := H4.out k hk3; omega
      have hsum : ((x.tot k : Nat) : Int) + ((x.l k).length : Int) = ((x.tot (k + 1) : Nat) : Int) := by rw [x.tot_succ]; omega
      have htb : x.tot (k + 1) ≤ 12 := by
        have e1 := H4.out 0 (by omega)
        have e2 := H4.out 1 (by omega)
        have e3 := H4.out 2 (by omega)
        have e4 := x.tot_succ 0
        have e5 := x.tot_succ 1
        have e6 := x.tot_succ 2
        have e7 : x.tot 0 = 0 := rfl
        have h3 : k = 0 ∨ k = 1 ∨ k = 2 := by omega
        rcases h3 with rfl | rfl | rfl <;> simp only [Nat.zero_add, Nat.reduceAdd] at e4 e5 e6 ⊢ <;> omega
      have hwr : IntKind.i64.wrap (((x.tot k : Nat) : Int) + ((x.l k).length : Int)) = ((x.tot (k + 1) : Nat) : Int) := by rw [hsum]; exact IntWalk.i64_in _ (by omega)
      have hsr := HB.out.size
      have Hown := hide hown
      have hB0 : Below w1.heap.size w1 wr := HB.out
      have hB0w : Below w.heap.size w wr := hB1.trans (hB0.mono hB1.size)
      obtain ⟨A9, c9, rfl, hc9, hA9⟩ := own_slice hown
      clear hown HB
      have hidx : (Instr.index 50 (.agg #[x.sl 0, x.sl 1, x.sl 2]) (.int .i64 (k : Int))).run Tryz.prog wr = .ok (.slice (x.A k) (x.l k).length (x.c k)) wr := by
        have h3 : k = 0 ∨ k = 1 ∨ k = 2 := by omega
        rcases h3 with rfl | rfl | rfl <;> rfl
      go_wp2_with (first
        | (at_builtin; (refine wpList_append_own _ rfl _ _ 58 rfl w1.heap.size 76 i0 _ 1 16 Tryz.underlying58 hi.out iz0.out iz1.out iz2.out rfl (by decide) (.slice A9 k c9) k ((List.range k).map x.cv) rfl (own_below Hown.out ab0) ⟨wr.heap.size, 0, none⟩ 1 1 [x.cv k] rfl rfl ?o2 ?o3 ?o4 ?o5 ?o6 ?_)))
      case o2 => exact fun j u h => h
      case o3 => rfl
      case o4 => unfold maxLen; omega
      case o5 => omega
      case o6 => exact (by first | omega | (simp; done) | (simp; omega))
      intro v5 w5 how5 hg5 _
      have hB5 : Below w1.heap.size w1 w5 := below_grown (hB0.trans (ab0)) hg5 (own_below Hown.out ab0) (Nat.le_refl _) (by simp; omega)
      have How5 := hide how5
      have HB5 := hide hB5
      clear how5 hB5 hg5
      go_wp2_with fail
      first
        | exact ⟨⟨k + 1, (k : Int) + 1, by go_num, by omega, by omega, rfl, by rw [List.range_succ, List.map_append]; exact How5.out, HB5⟩, by simp [intOf]; omega⟩
        | ((repeat apply Exists.intro); exact ⟨⟨k + 1, (k : Int) + 1, by go_num, by omega, by omega, rfl, by rw [List.range_succ, List.map_append]; exact How5.out, HB5⟩, by simp [intOf]; omega⟩)
    · obtain rfl : k = 3 := by omega
      obtain rfl : z = 3 := by omega
      obtain ⟨g9, c9, rfl, hc9, hg9, hr9⟩ := own_some hown (by omega)
      have Hr9 := hide hr9
      have h7' := H7.out
      have h7'' : ¬ ((7 : Int) < ((x.tot 3 : Nat) : Int)) := by omega
      have hBw : Below w.heap.size w wr := hB1.trans (HB.out.mono hB1.size)
      have hzr : w.heap.size + 1 < wr.heap.size := by have := HB.out.size; omega
      have hzr0 : w.heap.size < wr.heap.size := by omega
      clear hown hr9 hz hk hlt
      go_upto_region 15 with (first
        | (go_at_call 14; refine (Hnw.out _ (by first | with_reducible exact hBw | exact ab0)).mono ?_; rintro e w2 ⟨M, rfl, hfr, hMR, hMO, hb2⟩; obtain ⟨hcc2, hff2⟩ := bcell hb2; have hs2 := hb2.size; (try simp at hs2); have hz20 : w.heap.size < w2.heap.size := (by omega); have hz21 : w.heap.size + 1 < w2.heap.size := (by omega); have Hfr := hide hfr; have HMR := hide hMR; have HMO := hide hMO; have hb2w : Below w.heap.size w w2 := hBw.trans (hb2.mono (by omega)); clear hfr hMR hMO)
        | (go_at_call 15; refine (Hmk.out M _ c9 _ (HMR.out.below ab0) (by rw [Hfr.out.2.1]; exact Nat.le_refl 3) ((Hr9.out.below (Below.trans (by with_reducible assumption) (Below.mono (B := w2.heap.size) ab0 (by omega)))).more (by first | omega | (simp; done) | (simp; omega))) (by first | with_reducible exact hb2w | exact ab0)).mono ?_; rintro e w3 ⟨V, rfl, hV1, hV2, hV3, hVR, hVO, hb3⟩; obtain ⟨hcc3, hff3⟩ := bcell hb3; have hs3 := hb3.size; (try simp at hs3); have hz30 : w.heap.size < w3.heap.size := (by omega); have hz31 : w.heap.size + 1 < w3.heap.size := (by omega); have HV1 := hide hV1; have HV2 := hide hV2; have HV3 := hide hV3; have HVR := hide hVR; have HVO := hide hVO; clear hV1 hV2 hV3 hVR hVO))
      -- BEHIND
      have hsr := HB.out.size
      have hzC : w.heap.size + 1 < w1.heap.size := by omega
      have hBw3 : Below w1.heap.size w1 w3 := HB.out.trans (((hb2.mono (by omega)) : Below w1.heap.size wr w2).trans (((Below.alloc (Below.refl w2.heap.size w2) (Nat.le_refl _) _).trans (hb3.mono (by simp))).mono (by omega)))
      have oV : V.off (w.heap.size + 1) := HVO.out _ (by simp; omega) (HMO.out _ (by omega))
      obtain ⟨w4, hw4⟩ : ∃ W : World, W = w3.alloc (.cells #[.slice V.M.mem.pA V.M.mem.hs.length V.M.mem.pc, .slice V.M.mem.vA V.M.mem.vs.length V.M.mem.vc, .slice V.M.ln.fA V.M.ln.first.length V.M.ln.fc, .slice V.M.ln.lA V.M.ln.logs.length V.M.ln.lc, .map V.M.ln.asks, .slice V.M.sA V.M.steps.length V.M.sc, .int .i64 V.M.crashes, .slice V.tA V.ts.length V.tc, .slice V.sA V.ss.length V.sc] 46) := ⟨_, rfl⟩
      have hB34 : Below w3.heap.size w3 w4 := by rw [hw4]; exact Below.alloc (Below.refl _ _) (Nat.le_refl _) _
      have hBw4 : Below w1.heap.size w1 w4 := hBw3.trans (hB34.mono hBw3.size)
      have c0 := (hBw4.cell (p := ⟨w.heap.size + 1, 0, none⟩) hzC).trans (HC.out.at (j := 0) rfl)
      have c1 := (hBw4.cell (p := ⟨w.heap.size + 1, 1, none⟩) hzC).trans (HC.out.at (j := 1) rfl)
      have c2 := (hBw4.cell (p := ⟨w.heap.size + 1, 2, none⟩) hzC).trans (HC.out.at (j := 2) rfl)
      have c3 := (hBw4.cell (p := ⟨w.heap.size + 1, 3, none⟩) hzC).trans (HC.out.at (j := 3) rfl)
      have c4 := (hBw4.cell (p := ⟨w.heap.size + 1, 4, none⟩) hzC).trans (HC.out.at (j := 4) rfl)
      have c5 := (hBw4.cell (p := ⟨w.heap.size + 1, 5, none⟩) hzC).trans (HC.out.at (j := 5) rfl)
      have c6 := (hBw4.cell (p := ⟨w.heap.size + 1, 6, none⟩) hzC).trans (HC.out.at (j := 6) rfl)
      have c7 := (hBw4.cell (p := ⟨w.heap.size + 1, 7, none⟩) hzC).trans (HC.out.at (j := 7) rfl)
      have c8 := (hBw4.cell (p := ⟨w.heap.size + 1, 8, none⟩) hzC).trans (HC.out.at (j := 8) rfl)
      have fz2 : ∀ o, w4.frozen? ⟨w.heap.size + 1, o, none⟩ = false := fun o => (hBw4.frozen (p := ⟨w.heap.size + 1, o, none⟩) hzC).trans (HC.out.2.1 o)
      have hobv : w4.heap[w3.heap.size]? = some (.cells #[.slice V.M.mem.pA V.M.mem.hs.length V.M.mem.pc, .slice V.M.mem.vA V.M.mem.vs.length V.M.mem.vc, .slice V.M.ln.fA V.M.ln.first.length V.M.ln.fc, .slice V.M.ln.lA V.M.ln.logs.length V.M.ln.lc, .map V.M.ln.asks, .slice V.M.sA V.M.steps.length V.M.sc, .int .i64 V.M.crashes, .slice V.tA V.ts.length V.tc, .slice V.sA V.ss.length V.sc] 46 (0, 0)) := by rw [hw4]; exact heap_new _ _ rfl
      have d0 : w4.cell? ⟨w3.heap.size, 0, none⟩ = some (.slice V.M.mem.pA V.M.mem.hs.length V.M.mem.pc) := by simp [World.cell?, hobv]
      have d1 : w4.cell? ⟨w3.heap.size, 1, none⟩ = some (.slice V.M.mem.vA V.M.mem.vs.length V.M.mem.vc) := by simp [World.cell?, hobv]
      have d2 : w4.cell? ⟨w3.heap.size, 2, none⟩ = some (.slice V.M.ln.fA V.M.ln.first.length V.M.ln.fc) := by simp [World.cell?, hobv]
      have d3 : w4.cell? ⟨w3.heap.size, 3, none⟩ = some (.slice V.M.ln.lA V.M.ln.logs.length V.M.ln.lc) := by simp [World.cell?, hobv]
      have d4 : w4.cell? ⟨w3.heap.size, 4, none⟩ = some (.map V.M.ln.asks) := by simp [World.cell?, hobv]
      have d5 : w4.cell? ⟨w3.heap.size, 5, none⟩ = some (.slice V.M.sA V.M.steps.length V.M.sc) := by simp [World.cell?, hobv]
      have d6 : w4.cell? ⟨w3.heap.size, 6, none⟩ = some (.int .i64 V.M.crashes) := by simp [World.cell?, hobv]
      have d7 : w4.cell? ⟨w3.heap.size, 7, none⟩ = some (.slice V.tA V.ts.length V.tc) := by simp [World.cell?, hobv]
      have d8 : w4.cell? ⟨w3.heap.size, 8, none⟩ = some (.slice V.sA V.ss.length V.sc) := by simp [World.cell?, hobv]
      have hB4 : Below w.heap.size w w4 := hB1.trans (hBw4.mono hB1.size)
      have HR4 := hide (HVR.out.below hB34)
      have hz4 : w3.heap.size ≠ w.heap.size + 1 := by omega
      rw [← hw4]
      clear hw4 hobv hBw3 hBw4 hB34 hb2 hb3 hcc2 hff2 hcc3 hff3 hB1 hBw hb2w
      go_wp2_with fail
      have HZ := hide ((WorldV.R.set (WorldV.R.set (WorldV.R.set (WorldV.R.set (WorldV.R.set (WorldV.R.set (WorldV.R.set (WorldV.R.set (WorldV.R.set HR4.out oV (.of c0) (.slice V.M.mem.pA V.M.mem.hs.length V.M.mem.pc)) oV (.set (.of c1) _) (.slice V.M.mem.vA V.M.mem.vs.length V.M.mem.vc)) oV (.set (.set (.of c2) _) _) (.slice V.M.ln.fA V.M.ln.first.length V.M.ln.fc)) oV (.set (.set (.set (.of c3) _) _) _) (.slice V.M.ln.lA V.M.ln.logs.length V.M.ln.lc)) oV (.set (.set (.set (.set (.of c4) _) _) _) _) (.map V.M.ln.asks)) oV (.set (.set (.set (.set (.set (.of c5) _) _) _) _) _) (.slice V.M.sA V.M.steps.length V.M.sc)) oV (.set (.set (.set (.set (.set (.set (.of c6) _) _) _) _) _) _) (.int .i64 V.M.crashes)) oV (.set (.set (.set (.set (.set (.set (.set (.of c7) _) _) _) _) _) _) _) (.slice V.tA V.ts.length V.tc)) oV (.set (.set (.set (.set (.set (.set (.set (.set (.of c8) _) _) _) _) _) _) _) _) (.slice V.sA V.ss.length V.sc)))
      have HBB := hide ((Below.setCell (Below.setCell (Below.setCell (Below.setCell (Below.setCell (Below.setCell (Below.setCell (Below.setCell (Below.setCell hB4 (p := ⟨w.heap.size + 1, 0, none⟩) (by show w.heap.size ≤ w.heap.size + 1; omega) (.slice V.M.mem.pA V.M.mem.hs.length V.M.mem.pc)) (p := ⟨w.heap.size + 1, 1, none⟩) (by show w.heap.size ≤ w.heap.size + 1; omega) (.slice V.M.mem.vA V.M.mem.vs.length V.M.mem.vc)) (p := ⟨w.heap.size + 1, 2, none⟩) (by show w.heap.size ≤ w.heap.size + 1; omega) (.slice V.M.ln.fA V.M.ln.first.length V.M.ln.fc)) (p := ⟨w.heap.size + 1, 3, none⟩) (by show w.heap.size ≤ w.heap.size + 1; omega) (.slice V.M.ln.lA V.M.ln.logs.length V.M.ln.lc)) (p := ⟨w.heap.size + 1, 4, none⟩) (by show w.heap.size ≤ w.heap.size + 1; omega) (.map V.M.ln.asks)) (p := ⟨w.heap.size + 1, 5, none⟩) (by show w.heap.size ≤ w.heap.size + 1; omega) (.slice V.M.sA V.M.steps.length V.M.sc)) (p := ⟨w.heap.size + 1, 6, none⟩) (by show w.heap.size ≤ w.heap.size + 1; omega) (.int .i64 V.M.crashes)) (p := ⟨w.heap.size + 1, 7, none⟩) (by show w.heap.size ≤ w.heap.size + 1; omega) (.slice V.tA V.ts.length V.tc)) (p := ⟨w.heap.size + 1, 8, none⟩) (by show w.heap.size ≤ w.heap.size + 1; omega) (.slice V.sA V.ss.length V.sc)))
      refine bodyPost_ret (v := .tuple #[(.agg #[.slice ((V).M).mem.pA ((V).M).mem.hs.length ((V).M).mem.pc, .slice ((V).M).mem.vA ((V).M).mem.vs.length ((V).M).mem.vc, .slice ((V).M).ln.fA ((V).M).ln.first.length ((V).M).ln.fc, .slice ((V).M).ln.lA ((V).M).ln.logs.length ((V).M).ln.lc, .map ((V).M).ln.asks, .slice ((V).M).sA ((V).M).steps.length ((V).M).sc, .int .i64 ((V).M).crashes, .slice (V).tA (V).ts.length (V).tc, .slice (V).sA (V).ss.length (V).sc]), .bool true]) (by simp [results, Tryz.results7, go_sem]; (try go_simp)) rfl ⟨V, rfl, Hsh.out V (by rw [HV1.out]; exact Hfr.out) HV2.out HV3.out, ?_, ?_⟩
      · with_reducible exact HZ.out
      · with_reducible exact HBB.out
end Go.Proofs.YtfdndkgjmmeafaaGreatDoor

namespace Go.Proofs.YtfdndkgjmmeafaaGreatDoor
set_option linter.unusedSimpArgs false
set_option linter.unusedVariables false
open Go.RowKit Go.Maps Go.Sort
structure MW.In (L th n : Nat) (q : MW) : Prop where
  hs : q.hs.length = L
  vs : q.vs.length = th
  hl : ∀ l ∈ q.hs, (0 < l.length ∧ l.length ≤ n + 1) ∧ ∀ p ∈ l, p.1.plain ∧ (0 ≤ p.2.1 ∧ p.2.1 ≤ (th : Int)) ∧ ∀ z, 0 ≤ p.2.2 z ∧ p.2.2 z ≤ (n : Int)
  vl : ∀ f ∈ q.vs, ∀ z, 0 ≤ f z ∧ f z ≤ (n : Int)
  lg : q.logs.length = (L + 7) / 8
  lgl : ∀ g ∈ q.logs, (0 ≤ g.1 ∧ g.1 ≤ (n : Int)) ∧ g.2.length ≤ n
theorem MW.In.fit {L th n : Nat} {q : MW} (h : q.In L th n) (h1 : 0 < L ∧ L ≤ 4096) (h2 : 0 < th ∧ th ≤ 8) (h3 : n ≤ 999) : q.Fit := by
  have e1 := h.hs
  have e2 := h.vs
  refine ⟨by omega, by omega, fun l hl => ?_, fun f hf z => ?_, by rw [h.lg, e1], fun g hg => ?_⟩
  · obtain ⟨g1, g2⟩ := h.hl l hl
    refine ⟨by omega, fun p hp => ?_⟩
    obtain ⟨p1, p2, p3⟩ := g2 p hp
    exact ⟨p1, by omega, fun z => by have := p3 z; omega⟩
  · have := h.vl f hf z
    omega
  · have := h.lgl g hg
    omega
theorem withF_in {f : Int → Int} {n : Nat} {k i : Int} (hf : ∀ z, 0 ≤ f z ∧ f z ≤ (n : Int)) (h0 : 0 ≤ i) (h1 : i ≤ ((n + 1 : Nat) : Int)) : ∀ z, 0 ≤ withF f k i z ∧ withF f k i z ≤ ((n + 1 : Nat) : Int) := by
  intro z
  have h2 := hf z
  have h3 := hf k
  unfold withF upd
  split
  · omega
  · show 0 ≤ (if z = k then i else f z) ∧ (if z = k then i else f z) ≤ ((n + 1 : Nat) : Int)
    split
    · omega
    · omega
/-- What a write puts down is a plain word. -/
def NewOk (a : AS) : Prop := (W3.mk a.v2 a.r2 a.f2).plain
theorem act_in {L th n : Nat} {q : MW} {t : Nat} {a : AS} {c : Nat} (h : q.In L th n) (ha : ActOk L a) (hn : NewOk a) (ht : t < th) : (q.act t a c).1.In L th (n + 1) ∧ (q.act t a c).2.1.plain := by
  obtain ⟨ho, h0, h1⟩ := ha
  have e1 := h.hs
  have e2 := h.vs
  have hk : a.l.toNat < q.hs.length := by omega
  have htv : t < q.vs.length := by omega
  have g1 := List.getElem?_eq_getElem hk
  have g2 := List.getElem?_eq_getElem htv
  obtain ⟨⟨l0, l1⟩, hp⟩ := h.hl _ (List.getElem_mem hk)
  have hv := h.vl _ (List.getElem_mem htv)
  have hb := hv a.l
  have hup : ∀ l ∈ q.hs, (0 < l.length ∧ l.length ≤ n + 1 + 1) ∧ ∀ p ∈ l, p.1.plain ∧ (0 ≤ p.2.1 ∧ p.2.1 ≤ (th : Int)) ∧ ∀ z, 0 ≤ p.2.2 z ∧ p.2.2 z ≤ ((n + 1 : Nat) : Int) := fun l hl => by
    obtain ⟨⟨u1, u2⟩, u3⟩ := h.hl l hl
    exact ⟨by omega, fun p hp => ⟨(u3 p hp).1, (u3 p hp).2.1, fun z => by have := (u3 p hp).2.2 z; omega⟩⟩
  have hvu : ∀ f ∈ q.vs, ∀ z, 0 ≤ f z ∧ f z ≤ ((n + 1 : Nat) : Int) := fun f hf z => by have := h.vl f hf z; omega
  have hgu : ∀ g ∈ q.logs, (0 ≤ g.1 ∧ g.1 ≤ ((n + 1 : Nat) : Int)) ∧ g.2.length ≤ n + 1 := fun g hg => by have := h.lgl g hg; omega
  have hc := choose_in (n := q.hs[a.l.toNat].length) (i := q.vs[t] a.l) (c := c) l0 hb.1
  unfold MW.act
  rw [getD_at g1, getD_at g2]
  split
  · have hci : (chooseL q.hs[a.l.toNat].length (q.vs[t] a.l) c).toNat < q.hs[a.l.toNat].length := by omega
    rw [getD_at (List.getElem?_eq_getElem hci)]
    refine ⟨⟨e1, by rw [← e2]; exact List.length_set, hup, fun f hf => ?_, h.lg, hgu⟩, (hp _ (List.getElem_mem hci)).1⟩
    rcases List.mem_or_eq_of_mem_set hf with hm | rfl
    · exact hvu f hm
    · exact withF_in hv (by omega) (by omega)
  · have hlg : a.l.toNat / 8 < q.logs.length := by rw [h.lg]; omega
    rw [getD_at (List.getElem?_eq_getElem hlg)]
    have hg := h.lgl _ (List.getElem_mem hlg)
    refine ⟨⟨by rw [← e1]; exact List.length_set, by rw [← e2]; exact List.length_set, fun l hl => ?_, fun f hf => ?_, by rw [← h.lg]; exact List.length_set, fun g hg2 => ?_⟩, ⟨⟨rfl, rfl⟩, by show (-9223372036854775808 : Int) ≤ 0 ∧ (0 : Int) ≤ 9223372036854775807; decide⟩⟩
    · rcases List.mem_or_eq_of_mem_set hl with hm | rfl
      · exact hup l hm
      · refine ⟨by rw [List.length_append]; simp only [List.length_cons, List.length_nil]; omega, fun p hp2 => ?_⟩
        rcases List.mem_append.1 hp2 with hp3 | hp3
        · exact ⟨(hp p hp3).1, (hp p hp3).2.1, fun z => by have := (hp p hp3).2.2 z; omega⟩
        · rw [List.mem_singleton] at hp3
          subst hp3
          refine ⟨hn, by show (0 : Int) ≤ (t : Int) + 1 ∧ (t : Int) + 1 ≤ th; omega, ?_⟩
          exact withF_in (f := fun _ => 0) (fun z => ⟨Int.le_refl 0, by omega⟩) (by omega) (by omega)
    · rcases List.mem_or_eq_of_mem_set hf with hm | rfl
      · exact hvu f hm
      · exact withF_in hv (by omega) (by omega)
    · rcases List.mem_or_eq_of_mem_set hg2 with hm | rfl
      · exact hgu g hm
      · refine ⟨by show (0 : Int) ≤ _ ∧ _; omega, ?_⟩
        show (_ ++ [_]).length ≤ n + 1
        rw [List.length_append]
        simp only [List.length_cons, List.length_nil]
        omega
structure PW.In (L th n : Nat) (P : PW) : Prop where
  q : P.q.In L th n
  rg : P.rows.length = P.gots.length
  rt : P.rows.length = th
  gl : ∀ l ∈ P.gots, l.length ≤ n ∧ ∀ g ∈ l, (W3.mk g.v g.r g.f).plain
  rows : ∀ r ∈ P.rows, (r.l.length ≤ 100 ∧ r.i ≤ r.l.length) ∧ ∀ a ∈ r.l, ActOk L a ∧ NewOk a
theorem step_some {P : PW} {s : Nat × Nat} (hrg : P.rows.length = P.gots.length) (h : s.2 < P.ch s.1) : ∃ r a gl, P.rows[s.1]? = some r ∧ r.l[r.i]? = some a ∧ P.gots[s.1]? = some gl ∧ P.next s = P.step s.1 (P.q.act s.1 a s.2).1 r gl ⟨(P.q.act s.1 a s.2).2.1.v, (P.q.act s.1 a s.2).2.1.r, (P.q.act s.1 a s.2).2.1.f, (P.q.act s.1 a s.2).2.2⟩ := by
  unfold PW.ch at h
  unfold PW.next
  cases hr : P.rows[s.1]? with
  | none => rw [hr] at h; simp at h
  | some r =>
    rw [hr] at h
    simp only at h
    cases ha : r.l[r.i]? with
    | none => rw [ha] at h; simp at h
    | some a =>
      have hlt : s.1 < P.gots.length := by rw [← hrg]; exact (List.getElem?_eq_some_iff.1 hr).1
      refine ⟨r, a, P.gots[s.1], rfl, ha, List.getElem?_eq_getElem hlt, ?_⟩
      simp only [ha]
      rw [getD_at (List.getElem?_eq_getElem hlt)]
theorem next_in {L th n : Nat} {P : PW} {s : Nat × Nat} (h : P.In L th n) (hs : s.2 < P.ch s.1) : (P.next s).In L th (n + 1) := by
  obtain ⟨r, a, gl, h1, h2, h3, h4⟩ := step_some h.rg hs
  have hr := h.rows r (List.mem_of_getElem? h1)
  have hac := hr.2 a (List.mem_of_getElem? h2)
  have ht : s.1 < th := by rw [← h.rt]; exact (List.getElem?_eq_some_iff.1 h1).1
  obtain ⟨q1, q2⟩ := act_in (c := s.2) h.q hac.1 hac.2 ht
  have hi := (List.getElem?_eq_some_iff.1 h2).1
  rw [h4]
  refine ⟨q1, ?_, ?_, fun l hl => ?_, fun r' hr' => ?_⟩
  · show (P.rows.set _ _).length = (P.gots.set _ _).length
    rw [List.length_set, List.length_set]
    exact h.rg
  · show (P.rows.set _ _).length = th
    rw [List.length_set]
    exact h.rt
  · have hl2 : l ∈ P.gots.set s.1 _ := hl
    rcases List.mem_or_eq_of_mem_set hl2 with hm | rfl
    · obtain ⟨u1, u2⟩ := h.gl l hm
      exact ⟨by omega, u2⟩
    · obtain ⟨u1, u2⟩ := h.gl gl (List.mem_of_getElem? h3)
      refine ⟨by rw [List.length_append]; simp only [List.length_cons, List.length_nil]; omega, fun g hg => ?_⟩
      rcases List.mem_append.1 hg with hg | hg
      · exact u2 g hg
      · rw [List.mem_singleton] at hg
        subst hg
        exact q2
  · have hr2 : r' ∈ P.rows.set s.1 ⟨r.A, r.cap, r.l, r.i + 1⟩ := hr'
    rcases List.mem_or_eq_of_mem_set hr2 with hm | rfl
    · exact h.rows r' hm
    · exact ⟨⟨hr.1.1, by show r.i + 1 ≤ r.l.length; omega⟩, hr.2⟩
theorem PW.In.fit {L th n : Nat} {P : PW} (h : P.In L th n) (h1 : 0 < L ∧ L ≤ 4096) (h2 : 0 < th ∧ th ≤ 8) (h3 : n ≤ 999) (hk : P.keyP.length ≤ 140737488355328) (ho : P.outP.length ≤ 140737488355328) : P.Fit :=
  ⟨h.q.fit h1 h2 h3, h.rg, by rw [h.rt, h.q.vs]; exact Nat.le_refl _, fun l hl => ⟨by have := (h.gl l hl).1; omega, (h.gl l hl).2⟩, hk, ho⟩
theorem PW0_in {ws : List W3} {x : ActsV} (hw : ∀ y ∈ ws, y.plain) (hx : ∀ k, k < 3 → (x.l k).length ≤ 100 ∧ ∀ a ∈ x.l k, ActOk ws.length a ∧ NewOk a) : (PW0 ws x).In ws.length 3 0 := by
  refine ⟨⟨by simp [PW0], by simp [PW0], fun l hl => ?_, fun f hf => ?_, by simp [PW0], fun g hg => ?_⟩, by simp [PW0], by simp [PW0], fun l hl => ?_, fun r hr => ?_⟩
  · obtain ⟨y, hy, rfl⟩ := List.mem_map.1 (show l ∈ ws.map (fun y => [(y, (0 : Int), fun _ => (0 : Int))]) from hl)
    refine ⟨by simp, fun p hp => ?_⟩
    rw [List.mem_singleton] at hp
    subst hp
    exact ⟨hw y hy, ⟨Int.le_refl 0, by show (0 : Int) ≤ ((3 : Nat) : Int); decide⟩, fun z => ⟨Int.le_refl 0, Int.le_refl 0⟩⟩
  · obtain rfl := List.eq_of_mem_replicate (show f ∈ List.replicate 3 (fun _ => (0 : Int)) from hf)
    exact fun z => ⟨Int.le_refl 0, Int.le_refl 0⟩
  · obtain rfl := List.eq_of_mem_replicate (show g ∈ List.replicate ((ws.length + 7) / 8) ((0 : Int), ([] : List (Int × W3))) from hg)
    exact ⟨⟨Int.le_refl 0, Int.le_refl 0⟩, Nat.le_refl 0⟩
  · obtain rfl := List.eq_of_mem_replicate (show l ∈ List.replicate 3 ([] : List GS) from hl)
    exact ⟨Nat.le_refl 0, fun g hg => by cases hg⟩
  · obtain ⟨k, hk, rfl⟩ := List.mem_map.1 (show r ∈ (List.range 3).map (fun k => (⟨x.A k, x.c k, x.l k, 0⟩ : RowP)) from hr)
    obtain ⟨u1, u2⟩ := hx k (List.mem_range.1 hk)
    exact ⟨⟨u1, Nat.zero_le _⟩, u2⟩
end Go.Proofs.YtfdndkgjmmeafaaGreatDoor

