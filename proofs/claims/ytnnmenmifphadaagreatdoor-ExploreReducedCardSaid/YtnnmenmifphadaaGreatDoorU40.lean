/- What a machine shows; Do at every act, told purely. -/
import Derived.Test.YtnnmenmifphadaaGreatDoorU29
import Derived.Test.YtnnmenmifphadaaGreatDoorU30
import Derived.Test.YtnnmenmifphadaaGreatDoorU39
set_option linter.unusedSimpArgs false
set_option linter.unusedVariables false
namespace Go.Proofs.YtnnmenmifphadaaGreatDoor
open Go.RowKit Go.Maps
abbrev Msg := W3 × Int × (Int → Int)
abbrev Lg := Int × List (Int × W3)
structure MW where
 hs : List (List Msg)
 vs : List (Int → Int)
 logs : List Lg
 ak : Nat → Int → Int
def msgP (g : MsgV) : Msg := (g.x, g.t, g.a.f)
def logP (g : LogV) : Lg := (g.kept, g.l)
def MShows (m : MachV) (Q : MW) : Prop := m.mem.hs.map (fun h => h.l.map msgP) = Q.hs ∧ m.mem.vs.map VwV.f = Q.vs ∧ m.ln.logs.map logP = Q.logs ∧ m.ln.first.length = Q.hs.length ∧ m.ak = Q.ak ∧ m.steps.length = Q.vs.length
theorem map_at {α β : Type} {f : α → β} {l : List α} {r : List β} {k : Nat} {b : β} (h : l.map f = r) (hb : r[k]? = some b) : ∃ a, l[k]? = some a ∧ f a = b := by
 rw [← h, List.getElem?_map, Option.map_eq_some_iff] at hb
 exact hb
theorem map_len {α β : Type} {f : α → β} {l : List α} {r : List β} (h : l.map f = r) : l.length = r.length := by rw [← h, List.length_map]
theorem getD_at {α : Type} {l : List α} {i : Nat} {a d : α} (h : l[i]? = some a) : l.getD i d = a := by
 rw [List.getD_eq_getElem?_getD, h]
 rfl
def goodB (L : Nat) (op at_ : Int) : Bool := decide (0 ≤ op ∧ op ≤ 8 ∧ (op = 0 ∨ op = 8 ∨ (0 ≤ at_ ∧ at_ < (L : Int))))
theorem goodB_iff {L : Nat} {a : ActV} : goodB L a.op a.at_ = true ↔ a.good L := by
 unfold goodB ActV.good
 rw [decide_eq_true_eq]
def msgD : Msg := (⟨0, 0, 0⟩, 0, fun _ => 0)
def MW.seen (q : MW) (t : Nat) (f : Int → Int) : MW := ⟨q.hs, q.vs.set t f, q.logs, q.ak⟩
def MW.wrote (q : MW) (t k : Nat) (l : List Msg) (f fm : Int → Int) (x : W3) (lg : Lg) : MW := ⟨q.hs.set k (l ++ [(x, (t : Int) + 1, fm)]), q.vs.set t f, q.logs.set (k / 8) (lg.1, lg.2 ++ [((k : Int), x)]), q.ak⟩
def syncQ (g : Int → Int) (logs : List Lg) : List Lg := logs.mapIdx (fun n x => (max x.1 (g n), x.2))
def MW.doq (q : MW) (t : Nat) (a : ActV) (c : Int) : MW × W3 × Bool :=
 let k := a.at_.toNat
 let l := q.hs.getD k []
 let f := q.vs.getD t (fun _ => 0)
 let lg := q.logs.getD (k / 8) (0, [])
 let n := l.length - 1
 let i := (chooseL l.length (f k) c).toNat
 if goodB q.hs.length a.op a.at_ = false then (q, ⟨0, 0, 0⟩, false)
 else if a.op = 0 then (q, ⟨0, 0, 0⟩, true)
 else if a.op = 1 then (q.seen t (withF f k i), (l.getD i msgD).1, true)
 else if a.op = 2 then (q.seen t (joinF (withF f k i) (l.getD i msgD).2.2), (l.getD i msgD).1, true)
 else if a.op = 5 then (q.seen t (joinF (withF f k n) (l.getD n msgD).2.2), (l.getD n msgD).1, true)
 else if a.op = 3 then (q.wrote t k l (withF f k l.length) (withF (fun _ => 0) k l.length) a.new lg, ⟨0, 0, 0⟩, true)
 else if a.op = 4 then (q.wrote t k l (withF f k l.length) (withF f k l.length) a.new lg, ⟨0, 0, 0⟩, true)
 else if a.op = 6 then
  if eq3 (l.getD n msgD).1 a.old then (q.wrote t k l (withF (joinF (withF f k n) (l.getD n msgD).2.2) k (n + 1 : Nat)) (withF (joinF (withF f k n) (l.getD n msgD).2.2) k (n + 1 : Nat)) a.new lg, (l.getD n msgD).1, true)
  else (q.seen t (joinF (withF f k n) (l.getD n msgD).2.2), (l.getD n msgD).1, false)
 else if a.op = 7 then (⟨q.hs, q.vs, q.logs, askP q.ak t ((k : Int) / 8) lg.2.length⟩, ⟨0, 0, 0⟩, true)
 else (⟨q.hs, q.vs, syncQ (q.ak t) q.logs, askZ q.ak t⟩, ⟨0, 0, 0⟩, true)
theorem choose_in {n : Nat} {i c : Int} (hn : 0 < n) (hi : 0 ≤ i) : 0 ≤ chooseL n i c ∧ chooseL n i c < n := by
 unfold chooseL
 simp only
 generalize hm : ((n : Int) - 1 - max 0 (min i ((n : Int) - 1)) + 1) = m
 have h1 : 0 < m := by omega
 have h2 := Int.emod_nonneg (max c 0) (by omega : m ≠ 0)
 have h3 := Int.emod_lt_of_pos (max c 0) h1
 omega
structure MW.Can (q : MW) : Prop where
 hs : 0 < q.hs.length ∧ q.hs.length ≤ 4096
 th : 0 < q.vs.length ∧ q.vs.length ≤ 8
 hl : ∀ l ∈ q.hs, 0 < l.length ∧ l.length ≤ 1000
 vl : ∀ f ∈ q.vs, ∀ z, 0 ≤ f z ∧ f z ≤ 1000000
 lg : q.logs.length = (q.hs.length + 7) / 8
 lgl : ∀ g ∈ q.logs, (0 ≤ g.1 ∧ g.1 ≤ 1000000) ∧ g.2.length ≤ 1000000
def Shown (q : MW) (t : Nat) (a : ActV) (c : Int) (m2 : MachV) (y : W3) (ok : Bool) : Prop := MShows m2 (q.doq t a c).1 ∧ y = (q.doq t a c).2.1 ∧ ok = (q.doq t a c).2.2
theorem shows_stepped {m1 : MachV} {Q : MW} {gs sc t : Nat} {s : Int} (h : MShows m1 Q) : MShows (m1.stepped gs sc t s) Q := ⟨h.1, h.2.1, h.2.2.1, h.2.2.2.1, h.2.2.2.2.1, by rw [← h.2.2.2.2.2]; exact List.length_set⟩
theorem syncL_shows {g : Int → Int} {logs : List LogV} : (syncL g logs).map logP = syncQ g (logs.map logP) := by
 refine List.ext_getElem? (fun n => ?_)
 rw [show syncL g logs = syncTo (fun _ => true) g logs from rfl, List.getElem?_map, syncTo_at]
 unfold syncQ
 rw [List.getElem?_mapIdx, List.getElem?_map]
 cases logs[n]? <;> rfl
section
variable {q : MW} {t : Nat} {c : Int} {a : ActV}
theorem doq_rest (hg : goodB q.hs.length a.op a.at_ = true) (ho : a.op = 0) : q.doq t a c = (q, ⟨0, 0, 0⟩, true) := by
 rw [ho] at hg
 simp [MW.doq, hg, ho]
theorem doq_bad (hg : goodB q.hs.length a.op a.at_ = false) : q.doq t a c = (q, ⟨0, 0, 0⟩, false) := by simp [MW.doq, hg]
theorem doq_sync (hg : goodB q.hs.length a.op a.at_ = true) (ho : a.op = 8) : q.doq t a c = (⟨q.hs, q.vs, syncQ (q.ak t) q.logs, askZ q.ak t⟩, ⟨0, 0, 0⟩, true) := by
 rw [ho] at hg
 simp [MW.doq, hg, ho]
variable {k : Nat} {l : List Msg} {f : Int → Int} {lg : Lg}
theorem doq_flush (hg : goodB q.hs.length a.op a.at_ = true) (ho : a.op = 7) (hk : a.at_.toNat = k) (hlg : q.logs[k / 8]? = some lg) : q.doq t a c = (⟨q.hs, q.vs, q.logs, askP q.ak t ((k : Int) / 8) lg.2.length⟩, ⟨0, 0, 0⟩, true) := by
 rw [ho] at hg
 simp only [MW.doq, ho, hg, hk, getD_at hlg]
 simp
theorem doq_load {i : Nat} {g : Msg} (hg : goodB q.hs.length a.op a.at_ = true) (ho : a.op = 1) (hk : a.at_.toNat = k) (hl : q.hs[k]? = some l) (hf : q.vs[t]? = some f) (hi : (chooseL l.length (f k) c).toNat = i) (hgi : l[i]? = some g) : q.doq t a c = (q.seen t (withF f k i), g.1, true) := by
 rw [ho] at hg
 simp only [MW.doq, ho, hg, hk, getD_at hl, getD_at hf, hi, getD_at hgi]
 simp
theorem doq_acq {i : Nat} {g : Msg} (hg : goodB q.hs.length a.op a.at_ = true) (ho : a.op = 2) (hk : a.at_.toNat = k) (hl : q.hs[k]? = some l) (hf : q.vs[t]? = some f) (hi : (chooseL l.length (f k) c).toNat = i) (hgi : l[i]? = some g) : q.doq t a c = (q.seen t (joinF (withF f k i) g.2.2), g.1, true) := by
 rw [ho] at hg
 simp only [MW.doq, ho, hg, hk, getD_at hl, getD_at hf, hi, getD_at hgi]
 simp
theorem doq_look {n : Nat} {g : Msg} (hg : goodB q.hs.length a.op a.at_ = true) (ho : a.op = 5) (hk : a.at_.toNat = k) (hl : q.hs[k]? = some l) (hf : q.vs[t]? = some f) (hn : l.length = n + 1) (hgn : l[n]? = some g) : q.doq t a c = (q.seen t (joinF (withF f k n) g.2.2), g.1, true) := by
 rw [ho] at hg
 simp only [MW.doq, ho, hg, hk, getD_at hl, getD_at hf, hn, Nat.add_sub_cancel, getD_at hgn]
 simp
theorem doq_store (hg : goodB q.hs.length a.op a.at_ = true) (ho : a.op = 3) (hk : a.at_.toNat = k) (hl : q.hs[k]? = some l) (hf : q.vs[t]? = some f) (hlg : q.logs[k / 8]? = some lg) : q.doq t a c = (q.wrote t k l (withF f k l.length) (withF (fun _ => 0) k l.length) a.new lg, ⟨0, 0, 0⟩, true) := by
 rw [ho] at hg
 simp only [MW.doq, ho, hg, hk, getD_at hl, getD_at hf, getD_at hlg]
 simp
theorem doq_release (hg : goodB q.hs.length a.op a.at_ = true) (ho : a.op = 4) (hk : a.at_.toNat = k) (hl : q.hs[k]? = some l) (hf : q.vs[t]? = some f) (hlg : q.logs[k / 8]? = some lg) : q.doq t a c = (q.wrote t k l (withF f k l.length) (withF f k l.length) a.new lg, ⟨0, 0, 0⟩, true) := by
 rw [ho] at hg
 simp only [MW.doq, ho, hg, hk, getD_at hl, getD_at hf, getD_at hlg]
 simp
theorem doq_swap {n : Nat} {g : Msg} (hg : goodB q.hs.length a.op a.at_ = true) (ho : a.op = 6) (hk : a.at_.toNat = k) (hl : q.hs[k]? = some l) (hf : q.vs[t]? = some f) (hlg : q.logs[k / 8]? = some lg) (hn : l.length = n + 1) (hgn : l[n]? = some g) : q.doq t a c = if eq3 g.1 a.old then (q.wrote t k l (withF (joinF (withF f k n) g.2.2) k (n + 1 : Nat)) (withF (joinF (withF f k n) g.2.2) k (n + 1 : Nat)) a.new lg, g.1, true) else (q.seen t (joinF (withF f k n) g.2.2), g.1, false) := by
 rw [ho] at hg
 simp only [MW.doq, ho, hg, hk, getD_at hl, getD_at hf, getD_at hlg, hn, Nat.add_sub_cancel, getD_at hgn]
 simp
end
theorem sync_kind {m : MachV} {q : MW} {t : Nat} {c : Int} {a : ActV} (hQ : MShows m q) (hc : q.Can) (hgb : goodB q.hs.length a.op a.at_ = true) (ht : t < q.vs.length) (o8 : a.op = 8) (W : World) (hR : m.R W) : Calls Tryz.prog 82 #[.agg #[.slice m.ln.fA m.ln.first.length m.ln.fc, .slice m.ln.lA m.ln.logs.length m.ln.lc, .map m.ln.asks], .int .i64 ((t : Int) + 1)] W (InnerL m (Shown q t a c) W) := by
 obtain ⟨q1, q2, q3, q4, q5, q6⟩ := hQ
 have l3 := map_len q3
 have hth := hc.th
 have hhs := hc.hs
 have hlg := hc.lg
 have hN : (m.ln.first.length + 7) / 8 = m.ln.logs.length := by rw [l3, hlg, q4]
 have hsh : ∀ (ln1 : LinesV), ln1.logs = syncL (m.ak t) m.ln.logs → ln1.first.length = m.ln.first.length → Shown q t a c ⟨m.mem, ln1, m.sA, m.sc, m.steps, m.crashes, askZ m.ak t⟩ ⟨0, 0, 0⟩ true := fun ln1 e1 e2 => by
  unfold Shown
  rw [doq_sync hgb o8]
  refine ⟨⟨q1, q2, ?_, e2.trans q4, by show askZ m.ak t = _; rw [q5], q6⟩, rfl, rfl⟩
  show ln1.logs.map logP = syncQ (q.ak t) q.logs
  rw [e1, syncL_shows, q3, q5]
 have hkp : ∀ x ∈ m.ln.logs, 0 ≤ x.kept ∧ x.kept ≤ 1000000 := fun x hx => (hc.lgl (logP x) (by rw [← q3]; exact List.mem_map_of_mem hx)).1
 have hAk := hR.2.2.2.2.2
 rw [hN] at hAk
 rcases hAk with ⟨ha, hG⟩ | ⟨b, D, ha, hown, hK, h3⟩
 ·have hsl : syncL (m.ak t) m.ln.logs = m.ln.logs := syncTo_none (fun n _ _ => hG t n) (fun x hx => (hkp x hx).1)
  have haz : askZ m.ak t = m.ak := askZ_zero (hG t)
  have hs0 := line_sync0 m.ln t W hR.2.1 oM ha oM
  refine hs0.mono ?_
  rintro e w' ⟨lA', lc', rfl, hL, hnew, hb⟩
  have hb2 := hR.below hb
  refine ⟨⟨m.ln.fA, m.ln.fc, m.ln.first, lA', lc', m.ln.logs, none⟩, askZ m.ak t, rfl, hsh _ hsl.symm rfl, ⟨hb2.1, hL, hb2.2.2.1, hb2.2.2.2.1, hb2.2.2.2.2.1, ?_⟩, fun C hC h => ⟨h.1, ⟨h.2.1.1, fun _ b o e => by have := hnew b o e; omega, h.2.1.2.2⟩, h.2.2.1, fun e => by cases e⟩, hb⟩
  rw [haz]
  exact .inl ⟨rfl, hG⟩
 ·refine (line_syncM m.ln t b D m.ak W hR.2.1 ha hown hK h3 oM oM hkp).mono ?_
  rintro e w' ⟨lA', lc', b', rfl, hL, hA, hb', hnew, hb⟩
  have hb2 := hR.below hb
  refine ⟨⟨m.ln.fA, m.ln.fc, m.ln.first, lA', lc', syncL (m.ak t) m.ln.logs, some b'⟩, askZ m.ak t, ?_, hsh _ rfl rfl, ⟨hb2.1, hL, hb2.2.2.1, hb2.2.2.2.1, hb2.2.2.2.2.1, ?_⟩, fun C hC h => ⟨h.1, ⟨h.2.1.1, fun _ b o e => by have := hnew b o e; omega, ?_⟩, h.2.2.1, fun e => by injection e with e; omega⟩, hb⟩
  ·rw [show (syncL (m.ak t) m.ln.logs).length = m.ln.logs.length from syncTo_len _ _ _]
  ·rw [← hN] at hA
   exact hA
  ·intro x hx
   obtain ⟨n, hn⟩ := List.mem_iff_getElem?.1 hx
   rw [show syncL (m.ak t) m.ln.logs = syncTo (fun _ => true) (m.ak t) m.ln.logs from rfl, syncTo_at, Option.map_eq_some_iff] at hn
   obtain ⟨y, hy, rfl⟩ := hn
   exact h.2.1.2.2 y (List.mem_of_getElem? hy)
theorem flush_kind {m : MachV} {q : MW} {t : Nat} {c : Int} {a : ActV} (hQ : MShows m q) (hc : q.Can) (hgb : goodB q.hs.length a.op a.at_ = true) (hat : 0 ≤ a.at_ ∧ a.at_ < (q.hs.length : Int)) (ht : t < q.vs.length) (o7 : a.op = 7) (W : World) (hR : m.R W) : Calls Tryz.prog 112 #[.agg #[.slice m.ln.fA m.ln.first.length m.ln.fc, .slice m.ln.lA m.ln.logs.length m.ln.lc, .map m.ln.asks], .int .i64 ((t : Int) + 1), .int .i64 a.at_] W (InnerL m (Shown q t a c) W) := by
 obtain ⟨q1, q2, q3, q4, q5, q6⟩ := hQ
 have l3 := map_len q3
 have hth := hc.th
 have hhs := hc.hs
 have hlg := hc.lg
 have hN : (m.ln.first.length + 7) / 8 = m.ln.logs.length := by rw [l3, hlg, q4]
 obtain ⟨k, hk⟩ : ∃ k : Nat, a.at_ = k := ⟨a.at_.toNat, by omega⟩
 have hkk : a.at_.toNat = k := by omega
 have hkl : k / 8 < m.ln.logs.length := by omega
 have hg := List.getElem?_eq_getElem hkl
 have hq : q.logs[k / 8]? = some (logP m.ln.logs[k / 8]) := by rw [← q3, List.getElem?_map, hg]; rfl
 have hbd := (hc.lgl _ (List.mem_of_getElem? hq)).2
 have hAk := hR.2.2.2.2.2
 rw [hN] at hAk
 rw [hk]
 refine (line_flush m.ln t k _ m.ak W hR.2.1 hAk oM oM oM hg oM hbd).mono ?_
 rintro e w' ⟨b', rfl, hA, hb', hb⟩
 have hb2 := hR.below hb
 rw [← hN] at hA
 refine ⟨⟨m.ln.fA, m.ln.fc, m.ln.first, m.ln.lA, m.ln.lc, m.ln.logs, some b'⟩, askP m.ak t ((k : Int) / 8) (m.ln.logs[k / 8]).l.length, rfl, ?_, ⟨hb2.1, hb2.2.1, hb2.2.2.1, hb2.2.2.2.1, hb2.2.2.2.2.1, hA⟩, fun C hC h => ⟨h.1, h.2.1, h.2.2.1, fun e => by injection e with e; omega⟩, hb⟩
 unfold Shown
 rw [doq_flush hgb o7 hkk hq]
 exact ⟨⟨q1, q2, q3, q4, by show askP m.ak t _ _ = _; rw [q5]; rfl, q6⟩, rfl, rfl⟩
section
variable {m : MachV} {q : MW} {t k : Nat} {c : Int} {a : ActV}
theorem seen_shows (hQ : MShows m q) {M : MachV} {G c' : Nat} {v' : Option Nat} {f : Int → Int} (e : M = m.withMem (m.mem.with (some ⟨G, 0, none⟩) c' t ⟨v', f⟩)) : MShows M (q.seen t f) := by
 subst e
 obtain ⟨q1, q2, q3, q4, q5, q6⟩ := hQ
 refine ⟨q1, ?_, q3, q4, q5, ?_⟩
 ·show (m.mem.vs.set t ⟨v', f⟩).map VwV.f = q.vs.set t f
  rw [List.map_set, q2]
 ·show m.steps.length = (q.vs.set t f).length
  rw [List.length_set]
  exact q6
theorem read_kind (hQ : MShows m q) (hc : q.Can) (hgb : goodB q.hs.length a.op a.at_ = true) (hat : 0 ≤ a.at_ ∧ a.at_ < (q.hs.length : Int)) (ht : t < q.vs.length) (hcw : (Lit.int .i64 c).wf = true) (ho : a.op = 1 ∨ a.op = 2 ∨ a.op = 5) (W : World) (hR : m.R W) :
  Calls Tryz.prog 113 #[(maV m), .int .i64 ((t : Int) + 1), (avV a), .int .i64 c] W (Inner m (Shown q t a c) W) := by
 have hQ' := hQ
 obtain ⟨q1, q2, q3, q4, q5, q6⟩ := hQ'
 have l1 := map_len q1
 have l2 := map_len q2
 have hth := hc.th
 have hhs := hc.hs
 obtain ⟨k, hk⟩ : ∃ k : Nat, a.at_ = k := ⟨a.at_.toNat, by omega⟩
 have hkk : a.at_.toNat = k := by omega
 have hkl : k < q.hs.length := by omega
 have g1 := List.getElem?_eq_getElem hkl
 have g2 := List.getElem?_eq_getElem ht
 obtain ⟨h, hh, e1⟩ := map_at q1 g1
 obtain ⟨v, hv, e2⟩ := map_at q2 g2
 obtain ⟨n0, n1⟩ := hc.hl _ (List.getElem_mem hkl)
 have l3 := map_len e1
 have hvl := hc.vl _ (List.getElem_mem ht) (k : Int)
 have hoffs : ∀ (G c' : Nat) (v' : Option Nat) (f : Int → Int), W.heap.size ≤ G → ∀ C, C < W.heap.size → m.off C → MachV.off C (m.withMem (m.mem.with (some ⟨G, 0, none⟩) c' t ⟨v', f⟩)) := fun G c' v' f hG C hC hm => MachV.withMem_off hm (MemV.off_with hm.1 oM)
 have hin : 0 ≤ chooseL h.l.length (v.f k) c ∧ chooseL h.l.length (v.f k) c < h.l.length := choose_in oM (by rw [e2]; exact hvl.1)
 have hgi := List.getElem?_eq_getElem (l := h.l) (i := (chooseL h.l.length (v.f k) c).toNat) oM
 have hgi' : q.hs[k][(chooseL h.l.length (v.f k) c).toNat]? = some (msgP h.l[(chooseL h.l.length (v.f k) c).toNat]) := by rw [← e1, List.getElem?_map, hgi]; rfl
 have hie : (chooseL q.hs[k].length (q.vs[t] k) c).toNat = (chooseL h.l.length (v.f k) c).toNat := by rw [← e2, l3]
 rcases ho with o1 | o2 | o5
 ·refine (mach_load m t k _ c a h _ v W o1 hk hR hh oM hgi hv oM oM oM hcw).mono ?_
  rintro e w' ⟨G, v', rfl, hG, hR3, hb3⟩
  refine ⟨_, _, true, rfl, ?_, ⟨rfl, rfl, rfl, rfl⟩, hR3, hoffs _ _ _ _ hG, hb3⟩
  unfold Shown
  rw [doq_load hgb o1 hkk g1 g2 hie hgi']
  exact ⟨seen_shows hQ (by rw [← e2]; rfl), rfl, rfl⟩
 ·refine (mach_acq m t k _ c a h _ v W o2 hk hR hh oM hgi hv oM oM oM hcw).mono ?_
  rintro e w' ⟨G, v', rfl, hG, hR3, hb3⟩
  refine ⟨_, _, true, rfl, ?_, ⟨rfl, rfl, rfl, rfl⟩, hR3, hoffs _ _ _ _ hG, hb3⟩
  unfold Shown
  rw [doq_acq hgb o2 hkk g1 g2 hie hgi']
  exact ⟨seen_shows hQ (by rw [← e2]; rfl), rfl, rfl⟩
 ·obtain ⟨n, hn⟩ : ∃ n, h.l.length = n + 1 := ⟨h.l.length - 1, by omega⟩
  have hgn := List.getElem?_eq_getElem (l := h.l) (i := n) oM
  have hgn' : q.hs[k][n]? = some (msgP h.l[n]) := by rw [← e1, List.getElem?_map, hgn]; rfl
  refine (mach_look m t k n c a h _ v W o5 hk hR hh hn hgn hv oM oM oM).mono ?_
  rintro e w' ⟨G, v', rfl, hG, hR3, hb3⟩
  refine ⟨_, _, true, rfl, ?_, ⟨rfl, rfl, rfl, rfl⟩, hR3, hoffs _ _ _ _ hG, hb3⟩
  unfold Shown
  rw [doq_look hgb o5 hkk g1 g2 (by rw [← l3]; exact hn) hgn']
  exact ⟨seen_shows hQ (by rw [← e2]; rfl), rfl, rfl⟩
theorem wrote_shows (hQ : MShows m q) {l : List Msg} {h : HistV} {lg : LogV} {f fm : Int → Int} {x : W3} {M : MemV} (hl : h.l.map msgP = l) (hM : M.hs.map (fun h => h.l.map msgP) = (m.mem.hs.map (fun h => h.l.map msgP)).set k (h.l.map msgP ++ [(x, (t : Int) + 1, fm)])) (hv : M.vs.map VwV.f = (m.mem.vs.map VwV.f).set t f) {g1 lc' g2 cp2 : Nat} : MShows ⟨M, m.ln.stored k lg x g1 lc' g2 cp2, m.sA, m.sc, m.steps, m.crashes, m.ak⟩ (q.wrote t k l f fm x (logP lg)) := by
 obtain ⟨q1, q2, q3, q4, q5, q6⟩ := hQ
 refine ⟨?_, ?_, ?_, ?_, q5, ?_⟩
 ·rw [hM, q1, hl]
  rfl
 ·rw [hv, q2]
  rfl
 ·show (m.ln.logs.set (k / 8) _).map logP = q.logs.set (k / 8) _
  rw [List.map_set, q3]
  rfl
 ·show m.ln.first.length = (q.hs.set k _).length
  rw [List.length_set]
  exact q4
 ·show m.steps.length = (q.vs.set t f).length
  rw [List.length_set]
  exact q6
theorem write_kind (hQ : MShows m q) (hc : q.Can) (hgb : goodB q.hs.length a.op a.at_ = true) (hat : 0 ≤ a.at_ ∧ a.at_ < (q.hs.length : Int)) (ht : t < q.vs.length) (ho : a.op = 3 ∨ a.op = 4 ∨ a.op = 6) (W : World) (hR : m.R W) :
  Calls Tryz.prog 111 #[(maV m), .int .i64 ((t : Int) + 1), (avV a)] W (Inner m (Shown q t a c) W) := by
 have hQ' := hQ
 obtain ⟨q1, q2, q3, q4, q5, q6⟩ := hQ'
 have l1 := map_len q1
 have l2 := map_len q2
 have l4 := map_len q3
 have hth := hc.th
 have hhs := hc.hs
 have hlgl := hc.lg
 obtain ⟨k, hk⟩ : ∃ k : Nat, a.at_ = k := ⟨a.at_.toNat, by omega⟩
 have hkk : a.at_.toNat = k := by omega
 have hkl : k < q.hs.length := by omega
 have g1 := List.getElem?_eq_getElem hkl
 have g2 := List.getElem?_eq_getElem ht
 have g3 := List.getElem?_eq_getElem (l := q.logs) (i := k / 8) oM
 obtain ⟨h, hh, e1⟩ := map_at q1 g1
 obtain ⟨v, hv, e2⟩ := map_at q2 g2
 obtain ⟨lg, hlg, e3⟩ := map_at q3 g3
 obtain ⟨n0, n1⟩ := hc.hl _ (List.getElem_mem hkl)
 have l3 := map_len e1
 have hlb := (hc.lgl _ (List.mem_of_getElem? g3)).2
 rw [← e3] at hlb
 have hg6 : lg.l.length ≤ 1000000 := hlb
 rcases ho with o3 | o4 | o6
 ·refine (mach_store m t k a h v W o3 hk hR hh hv oM oM oM lg oM hlg oM oM hg6).mono ?_
  rintro e w' ⟨g9, pc', g7, cap', G, v', vt', h1, lc', h2, cp2, rfl, ⟨b1, b2, b3, b4, b5⟩, hR3, hb3⟩
  refine ⟨_, ⟨0, 0, 0⟩, true, rfl, ?_, ⟨rfl, rfl, rfl, rfl⟩, hR3, (fun C hC hm => ⟨MemV.off_added hm.1 oM oM oM, LinesV.off_stored hm.2.1 oM oM, hm.2.2⟩), hb3⟩
  unfold Shown
  rw [doq_store hgb o3 hkk g1 g2 g3, ← e3, ← e2, ← l3]
  exact ⟨wrote_shows hQ e1 (by show (m.mem.hs.set k _).map _ = _; rw [List.map_set, List.map_append]; rfl) (by show (m.mem.vs.set t _).map _ = _; rw [List.map_set]), rfl, rfl⟩
 ·refine (mach_release m t k a h v W o4 hk hR hh hv oM oM oM lg oM hlg oM oM hg6).mono ?_
  rintro e w' ⟨g9, pc', g7, cap', G, v', vt', h1, lc', h2, cp2, rfl, ⟨b1, b2, b3, b4, b5⟩, hR3, hb3⟩
  refine ⟨_, ⟨0, 0, 0⟩, true, rfl, ?_, ⟨rfl, rfl, rfl, rfl⟩, hR3, (fun C hC hm => ⟨MemV.off_added hm.1 oM oM oM, LinesV.off_stored hm.2.1 oM oM, hm.2.2⟩), hb3⟩
  unfold Shown
  rw [doq_release hgb o4 hkk g1 g2 g3, ← e3, ← e2, ← l3]
  exact ⟨wrote_shows hQ e1 (by show (m.mem.hs.set k _).map _ = _; rw [List.map_set, List.map_append]; rfl) (by show (m.mem.vs.set t _).map _ = _; rw [List.map_set]), rfl, rfl⟩
 ·obtain ⟨n, hn⟩ : ∃ n, h.l.length = n + 1 := ⟨h.l.length - 1, by omega⟩
  have hgn := List.getElem?_eq_getElem (l := h.l) (i := n) oM
  have hgn' : q.hs[k][n]? = some (msgP h.l[n]) := by rw [← e1, List.getElem?_map, hgn]; rfl
  cases hq : eq3 (h.l[n]).x a.old with
  | true =>
   refine (mach_swap_yes m t k n a h _ v W o6 hk hR hh hn hgn hv oM oM oM lg oM hlg oM oM hg6 hq).mono ?_
   rintro e w' ⟨g9, pc', g7, cap', G, v', h1, lc', h2, cp2, rfl, ⟨b1, b2, b3, b4, b5⟩, hR3, hb3⟩
   refine ⟨_, _, true, rfl, ?_, ⟨rfl, rfl, rfl, rfl⟩, hR3, (fun C hC hm => ⟨MemV.off_swapped hm.1 oM oM oM, LinesV.off_stored hm.2.1 oM oM, hm.2.2⟩), hb3⟩
   unfold Shown
   rw [doq_swap hgb o6 hkk g1 g2 g3 (by rw [← l3]; exact hn) hgn', if_pos (show eq3 (msgP h.l[n]).1 a.old = true from hq), ← e3, ← e2]
   exact ⟨wrote_shows hQ e1 (by show (m.mem.hs.set k _).map _ = _; rw [List.map_set, List.map_append]; rfl) (by show (m.mem.vs.set t _).map _ = _; rw [List.map_set]; rfl), rfl, rfl⟩
  | false =>
   refine (mach_swap_no m t k n a h _ v W o6 hk hR hh hn hgn hv oM oM oM hq).mono ?_
   rintro e w' ⟨G, v', rfl, hG, hR3, hb3⟩
   refine ⟨_, _, false, rfl, ?_, ⟨rfl, rfl, rfl, rfl⟩, hR3, (fun C hC hm => MachV.withMem_off hm (MemV.off_with hm.1 oM)), hb3⟩
   unfold Shown
   rw [doq_swap hgb o6 hkk g1 g2 g3 (by rw [← l3]; exact hn) hgn', if_neg (show ¬ eq3 (msgP h.l[n]).1 a.old = true by rw [show eq3 (msgP h.l[n]).1 a.old = false from hq]; decide)]
   exact ⟨seen_shows hQ (by rw [← e2]; rfl), rfl, rfl⟩
theorem do_all (hQ : MShows m q) (hc : q.Can) (ht : t < q.vs.length) (hcw : (Lit.int .i64 c).wf = true) (W : World) (hR : m.R W) :
  Calls Tryz.prog 65 #[(maV m), .int .i64 ((t : Int) + 1), (avV a), .int .i64 c] W fun e w' => ∃ (m2 : MachV) (y : W3) (ok : Bool) (er : Int), e = .returned (.tuple #[(maV m2), (.agg #[.int .i64 (y).v, .int .u32 (y).r, .int .u32 (y).f, .bool ok]), .int .i64 er]) ∧ (er = 0 ∨ er ≠ 0 ∧ m2 = m ∧ y = ⟨0, 0, 0⟩ ∧ ok = false) ∧ Shown q t a c m2 y ok ∧ m2.R w' ∧ (∀ C, C < W.heap.size → m.off C → m2.off C) ∧ Below W.heap.size W w' := by
 have l1 := map_len hQ.1
 have l2 := map_len hQ.2.1
 have hth := hc.th
 have hhs := hc.hs
 cases hgb : goodB q.hs.length a.op a.at_ with
 | false =>
  have hb : ¬ a.good m.mem.hs.length := fun h => by
   rw [l1] at h
   rw [goodB_iff.2 h] at hgb
   cases hgb
  refine (mach_do_bad m t c a W hR oM hb).mono ?_
  rintro e w' ⟨rfl, hR2, hb2⟩
  refine ⟨m, ⟨0, 0, 0⟩, false, badE a, rfl, .inr ⟨badE_ne a, rfl, rfl, rfl⟩, ?_, hR2, fun _ _ h => h, hb2⟩
  unfold Shown
  rw [doq_bad hgb]
  exact ⟨hQ, rfl, rfl⟩
 | true =>
  have hgd := goodB_iff.1 hgb
  have hs : m.steps[t]? = some (m.steps[t]'(by have := hQ.2.2.2.2.2; omega)) := List.getElem?_eq_getElem _
  have hkind : DoKind m t a c (Shown q t a c) := by
   obtain ⟨h0, h8, hat⟩ := hgd
   by_cases o0 : a.op = 0
   ·refine .inl ⟨o0, ?_⟩
    unfold Shown
    rw [doq_rest hgb o0]
    exact ⟨hQ, rfl, rfl⟩
   by_cases o8 : a.op = 8
   ·exact .inr (.inr (.inr (.inr ⟨o8, fun W hR => sync_kind hQ hc hgb ht o8 W hR⟩)))
   have hat' : 0 ≤ a.at_ ∧ a.at_ < (q.hs.length : Int) := by omega
   by_cases o7 : a.op = 7
   ·exact .inr (.inr (.inr (.inl ⟨o7, fun W hR => flush_kind hQ hc hgb hat' ht o7 W hR⟩)))
   by_cases ow : a.op = 3 ∨ a.op = 4 ∨ a.op = 6
   ·exact .inr (.inr (.inl ⟨ow, fun W hR => write_kind hQ hc hgb hat' ht ow W hR⟩))
   ·have hr : a.op = 1 ∨ a.op = 2 ∨ a.op = 5 := by omega
    exact .inr (.inl ⟨hr, fun W hR => read_kind hQ hc hgb hat' ht hcw hr W hR⟩)
  refine (mach_do m t _ c a W _ hR oM oM hs (by have := hQ.2.2.2.2.2; omega) (by rw [l1]; exact hgd) hkind).mono ?_
  rintro e w' ⟨m1, x, ok, gs, sc', rfl, ⟨hS, rfl, rfl⟩, hR2, hoff, hb⟩
  exact ⟨_, _, _, 0, rfl, .inl rfl, ⟨shows_stepped hS, rfl, rfl⟩, hR2, hoff, hb⟩
end
end Go.Proofs.YtnnmenmifphadaaGreatDoor
