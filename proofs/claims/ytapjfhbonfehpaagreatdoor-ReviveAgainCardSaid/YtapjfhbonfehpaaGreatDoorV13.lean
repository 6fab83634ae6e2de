/- The builtin copy for elements of any number of cells. No program. -/
import Derived.Laws.CopyOwn
import Derived.Test.YtapjfhbonfehpaaGreatDoorV04
import Derived.Test.YtapjfhbonfehpaaGreatDoorV09
set_option linter.unusedSimpArgs false
set_option linter.unusedVariables false
namespace Go.Proofs.YtapjfhbonfehpaaGreatDoor
open Go.RowKit
theorem lZ {P : Program} (w : World) (t ty e : TypeId) (i : TypeInfo) (z : Value) (size bytes : Nat) (ht : P.underlying t = some (.slice e)) (hi : P.info? e = some i) (hz : i.zero = some z)
  (hsize : i.size = size) (hby : i.bytes = bytes) (hzs : z.cells.size = size) (B : Nat) (A : Option Addr) (m : Nat) (xs : List Value) (hr : Rd w B size A m xs) (hA : A = none → m = 0)
  (a : Addr) (c : Nat) (news : List Value) (hl : news.length = size) (hnews : ∀ j u, news[j]? = some u → w.cell? (a.add j) = some u)
  (h63 : m + 1 ≤ maxLen) (hbytes : (m + 1) * bytes ≤ 140737488355328) :
  ∃ cap' w', (Builtin.append_ #[t, t] ty #[.slice A m m, .slice (some a) 1 c]).run P w = .ok (.slice (some ⟨w.heap.size, 0, none⟩) (m + 1) cap') w' ∧ w'.ownsRow w.heap.size e size (.slice (some ⟨w.heap.size, 0, none⟩) (m + 1) cap') (m + 1) (xs ++ news) ∧ Below w.heap.size w w' ∧ w.heap.size < w'.heap.size := by
 subst hsize hby;have hsmall : m + 1 ≤ 9223372036854775807 := by simp only [maxLen] at h63; omega
 have hown : ∀ (cap : Nat) (zs : Array Value), m + 1 ≤ cap → cap ≤ maxLen → zs.size = (cap - (m + 1)) * i.size → (w.drew.alloc (.cells (xs.toArray ++ news.toArray ++ zs) e)).ownsRow w.heap.size e i.size (.slice (some ⟨w.heap.size, 0, none⟩) (m + 1) cap) (m + 1) (xs ++ news) := by
  intro cap zs h1 h2 h3;refine ⟨by rw [List.length_append, hr.1, hl, Nat.succ_mul], .inr ⟨w.heap.size, cap, _, rfl, Nat.le_refl _, heap_alloc_new w.drew _, h1, h2, ?_, ?_⟩⟩
  ·have : (m + 1) * i.size + (cap - (m + 1)) * i.size = cap * i.size := by rw [← Nat.add_mul, show m + 1 + (cap - (m + 1)) = cap by omega]
   simp only [Array.size_append, List.size_toArray, hr.1, hl, h3];rw [Nat.succ_mul] at this;omega
  ·simp only [Array.toList_append];rw [List.take_append_of_le_length (by simp [hr.1, hl, Nat.succ_mul]), List.take_of_length_le (by simp [hr.1, hl, Nat.succ_mul])]
 cases A with
 | none =>
  obtain rfl : m = 0 := hA rfl;obtain rfl : xs = [] := List.eq_nil_of_length_eq_zero (by simpa using hr.1);have hrun := run_append_nil (P := P) w t ty e i z ht hi hz a 1 c news oM hnews oM oM oM;refine ⟨_, _, hrun, ?_, ((Below.refl _ _).drew).alloc (Nat.le_refl _) _, by simp⟩;have h := hown (grownCap w 1 0 e) (Builtin.zeroCells z.cells (grownCap w 1 0 e - 1)) (grownCap_ge w 1 0 e) (grownCap_le_maxLen w 1 0 e (by simp only [maxLen]; omega)) (by rw [size_zeroCells, hzs]);simpa using h
 | some b =>
  have holds : ∀ j u, xs[j]? = some u → w.cell? (b.add j) = some u := by
   intro j u hu;have hm : 0 < m := by
    rcases Nat.eq_zero_or_pos m with h0 | h0
    ·subst h0;obtain rfl : xs = [] := List.eq_nil_of_length_eq_zero (by simpa using hr.1);simp at hu
    ·exact h0
   obtain ⟨b', off, e', _, hc⟩ := hr.2 hm;injection e' with e'
   subst e';rw [Go.WideShapes.add_plain];exact hc j u hu
  have hrun := run_append_grow (P := P) w t ty e i z ht hi hz b m m xs hr.1 holds a 1 c news oM hnews oM oM (growslice_fits oM hbytes);refine ⟨_, _, hrun, hown _ _ (grownCap_ge w (m + 1) m e) (grownCap_le_maxLen w (m + 1) m e h63) (by rw [size_zeroCells, hzs]), ((Below.refl _ _).drew).alloc (Nat.le_refl _) _, by simp⟩
theorem dA {P : Program} {o : Oper} {a : Act} {w : World} {K : Act → World → Prop} {Q : Exit → Act → World → Prop} (s x : Operand) (t : TypeId)
  (ho : o.op = .call { callee := .builtin .append, args := #[s, x], argTypes := #[t, t] })
  (e : TypeId) (i : TypeInfo) (z : Value) (size bytes : Nat) (ht : P.underlying t = some (.slice e)) (hi : P.info? e = some i) (hz : i.zero = some z)
  (hsize : i.size = size) (hby : i.bytes = bytes) (hzs : z.cells.size = size) (B : Nat) (A : Option Addr) (m : Nat) (xs : List Value) (hs : a.eval s = .slice A m m) (hr : Rd w B size A m xs) (hA : A = none → m = 0)
  (ad : Addr) (c : Nat) (news : List Value) (hx : a.eval x = .slice (some ad) 1 c) (hl : news.length = size) (hnews : ∀ j u, news[j]? = some u → w.cell? (ad.add j) = some u)
  (h63 : m + 1 ≤ maxLen) (hbytes : (m + 1) * bytes ≤ 140737488355328)
  (h : ∀ cap' w', Hid (w'.ownsRow w.heap.size e size (.slice (some ⟨w.heap.size, 0, none⟩) (m + 1) cap') (m + 1) (xs ++ news)) → Below w.heap.size w w' → w.heap.size < w'.heap.size → K (a.put o.dst (.slice (some ⟨w.heap.size, 0, none⟩) (m + 1) cap')) w') :
  Oper.wp P o a w K Q := by
 obtain ⟨cap', w', hrun, h1, h2, h3⟩ := lZ (P := P) w t o.type e i z size bytes ht hi hz hsize hby hzs B A m xs hr hA ad c news hl hnews h63 hbytes;unfold Oper.wp;simp [execOp, ho, resolve, invoke, builtin, hs, hx, hrun, Result.andThen];exact h cap' w' h1 h2 h3
theorem wp_append_own {P : Program} {o : Oper} {a : Act} {w : World} {K : Act → World → Prop} {Q : Exit → Act → World → Prop} (s x : Operand) (t : TypeId)
  (ho : o.op = .call { callee := .builtin .append, args := #[s, x], argTypes := #[t, t] })
  (base : Nat) (e : TypeId) (i : TypeInfo) (z : Value) (size bytes : Nat) (ht : P.underlying t = some (.slice e)) (hi : P.info? e = some i) (hz : i.zero = some z)
  (hsize : i.size = size) (hby : i.bytes = bytes) (hzs : z.cells.size = size) (hsz : 0 < size)
  (v : Value) (n : Nat) (xs : List Value) (hs : a.eval s = v) (hown : w.ownsRow base e size v n xs)
  (ad : Addr) (c : Nat) (news : List Value) (hx : a.eval x = .slice (some ad) 1 c) (hl : news.length = size) (hnews : ∀ j u, news[j]? = some u → w.cell? (ad.add j) = some u) (h1 : ∀ u ∈ news, u.oneCell' = true)
  (h63 : n + 1 ≤ maxLen) (hbytes : (n + 1) * bytes ≤ 140737488355328) (hbase : base ≤ w.heap.size) (B : Nat) (w0 : World) (hb : Below B w0 w) (hB : B ≤ base)
  (h : ∀ v' w', Hid (w'.ownsRow base e size v' (n + 1) (xs ++ news)) → Below B w0 w' → w.heap.size ≤ w'.heap.size → Hid (∀ b, b < w.heap.size → v.ownBlock ≠ some b → v'.ownBlock ≠ some b ∧ w'.heap[b]? = w.heap[b]?) → K (a.put o.dst v') w') :
  Oper.wp P o a w K Q := by
 have hsrc : 0 < 1 → ∃ a, some ad = some a ∧ ∀ j u, news[j]? = some u → w.cell? (a.add j) = some u := fun _ => ⟨ad, rfl, hnews⟩;have hl1 : news.length = 1 * size := by omega
 obtain ⟨v', w', uU, h2, h3⟩ := jy (P := P) w base t o.type e i z size bytes ht hi hz hsize hby hzs hsz v n xs hown (some ad) 1 c news hl1 hsrc h1 h63 hbytes hbase;have h5 := qA (P := P) w base t o.type e i z size bytes ht hi hz hsize hby v n xs hown (some ad) 1 c news hl1 hsrc h1 h63 hbytes v' w' uU;unfold Oper.wp execOp;simp only [ho, resolve, invoke, builtin, Sem.run_bind, Sem.run_pure, Result.andThen_ok, List.map_toArray, List.map_cons, List.map_nil, hs, hx, uU];refine h v' w' h2 (below_grown hb h3 hown hB (Nat.le_trans hB hbase)) h3.size (fun b hbl hne => ⟨?_, h3.block b hbl (fun e => hne e.symm)⟩);rcases h5 with h5 | h5
 ·rw [h5]; exact hne
 ·rw [h5]; intro e; injection e with e; omega
theorem Rd.stay {w w' : World} {B size n : Nat} {A : Option Addr} {xs : List Value} (h : Rd w B size A n xs) (hs : 0 < n → ∀ b o, A = some ⟨b, o, none⟩ → b < B → w'.heap[b]? = w.heap[b]?) : Rd w' B size A n xs := by
 refine ⟨h.1, fun hn => ?_⟩;obtain ⟨b, off, e, hb, hc⟩ := h.2 hn;refine ⟨b, off, e, hb, fun j u hu => ?_⟩;rw [← hc j u hu];simp only [World.cell?, hs hn b off e hb]
def jW (w : World) (base : Nat) (e : TypeId) (size : Nat) (v : Value) (n : Nat) (xs : List Value) : Prop := w.ownsRow base e size v n xs ∨ ∃ A, v = .slice A n n ∧ Rd w base size A n xs ∧ (A = none → n = 0)
theorem lU {P : Program} {w : World} {ops : Array Oper} {rest : List Oper} {o : Oper} {a : Act} {Q : Exit → Act → World → Prop} (hgd : o.guard = none) (s x : Operand) (t : TypeId)
  (ho : o.op = .call { callee := .builtin .append, args := #[s, x], argTypes := #[t, t] })
  (base : Nat) (e : TypeId) (i : TypeInfo) (z : Value) (size bytes : Nat) (ht : P.underlying t = some (.slice e)) (hi : P.info? e = some i) (hz : i.zero = some z)
  (hsize : i.size = size) (hby : i.bytes = bytes) (hzs : z.cells.size = size) (hsz : 0 < size)
  (v : Value) (n : Nat) (xs : List Value) (hs : a.eval s = v) (hown : jW w base e size v n xs)
  (ad : Nat) (c : Nat) (news : List Value) (hx : a.eval x = .slice (some ⟨ad, 0, none⟩) 1 c) (hr : Rd w w.heap.size size (some ⟨ad, 0, none⟩) 1 news) (h1 : ∀ u ∈ news, u.oneCell' = true)
  (h63 : n + 1 ≤ maxLen) (hbytes : (n + 1) * bytes ≤ 140737488355328) (hbase : base ≤ w.heap.size) (B : Nat) (w0 : World) (hb : Below B w0 w) (hB : B ≤ base)
  (h : ∀ v' w', w'.ownsRow base e size v' (n + 1) (xs ++ news) → Below B w0 w' → w.heap.size ≤ w'.heap.size → wpList P ops Q rest (a.put o.dst v') w') : wpList P ops Q (o :: rest) a w := by
 rcases hown with hown | ⟨A, rfl, nh, hA⟩
 ·exact aK hgd s x t ho base e i z size bytes ht hi hz hsize hby hzs hsz v n xs hs hown _ 1 c news hx w.heap.size hr h1 h63 hbytes hbase B w0 hb hB h
 ·refine wpList_plain hgd fun K hK => ?_;have hnl : news.length = size := by have := hr.1; omega
  obtain ⟨b, off, e1, -, hc⟩ := hr.2 oM;injection e1 with e1
  injection e1 with e1 e2
  subst e1 e2;obtain ⟨cap', w', uU, h2, h3, h4⟩ := lZ (P := P) w t o.type e i z size bytes ht hi hz hsize hby hzs base A n xs nh hA ⟨ad, 0, none⟩ c news hnl (fun j u hu => by rw [Go.WideShapes.add_plain]; exact hc j u hu) h63 hbytes;unfold Oper.wp execOp;simp only [ho, resolve, invoke, builtin, Sem.run_bind, Sem.run_pure, Result.andThen_ok, List.map_toArray, List.map_cons, List.map_nil, hs, hx, uU];refine hK _ _ (h _ w' ⟨h2.1, ?_⟩ (hb.trans (h3.mono oM)) h3.size);rcases h2.2 with ⟨h5, -⟩ | ⟨g', cap, cur, h5, h6, h7⟩
  ·cases h5
  ·exact .inr ⟨g', cap, cur, h5, Nat.le_trans hbase h6, h7⟩
end Go.Proofs.YtapjfhbonfehpaaGreatDoor
namespace Go.Proofs.YtapjfhbonfehpaaGreatDoor
open Go.RowKit
theorem vv (P : Program) (w : World) (dT sT ty elem : TypeId) (i : TypeInfo) (size : Nat) (g o pX vP : Nat) (a : Addr) (lY qy : Nat) (cur : Array Value) (t : TypeId) (cs : List Value) (m : Nat)
  (hu : P.underlying dT = some (.slice elem)) (hi : P.info? elem = some i) (hs : i.size = size)
  (hg : w.heap[g]? = some (.cells cur t (0, 0))) (hm : m = Nat.min lY pX) (hn : cs.length = m * size)
  (hsrc : ∀ j v, cs[j]? = some v → w.cell? (a.add j) = some v) (hfit : o + cs.length ≤ cur.size) (h1 : ∀ v ∈ cs, v.oneCell' = true) :
  (Builtin.copy_ #[dT, sT] ty #[.slice (some ⟨g, o, none⟩) pX vP, .slice (some a) lY qy]).run P w =
   .ok (goInt m) (w.setRow g (cur.toList.take o ++ cs ++ cur.toList.drop (o + cs.length)).toArray) := by
 have hl := run_firstCells_some (P := P) (w := w) size m a lY qy cs hn hsrc;have hst := run_storeCells_at P g o t cs 0 cur w hg (by simpa using hfit) h1;simp [Builtin.copy_, run_underlying hu, Builtin.lenOf, sizeOf, typeInfo, hi, hs, ← hm, hl, hst]
theorem vu (P : Program) (w : World) (dT sT ty elem : TypeId) (i : TypeInfo) (dp sp : Option Addr) (pX vP lY qy : Nat)
  (hu : P.underlying dT = some (.slice elem)) (hi : P.info? elem = some i) (hn : Nat.min lY pX = 0) :
  (Builtin.copy_ #[dT, sT] ty #[.slice dp pX vP, .slice sp lY qy]).run P w = .ok (goInt 0) w := by
 have hl : (Builtin.firstCells i.size 0 (.slice sp lY qy)).run P w = .ok #[] w := by
  cases sp with
  | none => simp [Builtin.firstCells]
  | some a => exact run_firstCells_some (P := P) (w := w) i.size 0 a lY qy [] sM sM
 cases dp <;> simp [Builtin.copy_, run_underlying hu, Builtin.lenOf, sizeOf, typeInfo, hi, hn, hl, storeCells]
theorem xG (P : Program) (w : World) (dT sT ty elem : TypeId) (i : TypeInfo) (size : Nat) (dp sp : Option Addr) (g o pX vP lY qy : Nat) (cur : List Value) (t : TypeId) (cs : List Value) (m : Nat)
  (hu : P.underlying dT = some (.slice elem)) (hi : P.info? elem = some i) (hs : i.size = size)
  (hg : w.heap[g]? = some (.cells cur.toArray t (0, 0))) (hm : m = Nat.min lY pX) (hn : cs.length = m * size)
  (hpos : 0 < m → dp = some ⟨g, o, none⟩ ∧ ∃ a, sp = some a ∧ ∀ j v, cs[j]? = some v → w.cell? (a.add j) = some v) (hfit : o + cs.length ≤ cur.length) (h1 : ∀ v ∈ cs, v.oneCell' = true) (B : Nat) (w0 : World) (hb : Below B w0 w) (hBg : B ≤ g) :
  ∃ w', (Builtin.copy_ #[dT, sT] ty #[.slice dp pX vP, .slice sp lY qy]).run P w = .ok (goInt m) w' ∧ w'.heap[g]? = some (.cells (splice cur o cs).toArray t (0, 0)) ∧ Below B w0 w' ∧ w'.heap.size = w.heap.size ∧
   (∀ k, k ≠ g → w'.heap[k]? = w.heap[k]?) := by
 by_cases h0 : m = 0
 ·subst h0;obtain rfl : cs = [] := List.eq_nil_of_length_eq_zero (by simpa using hn);exact ⟨w, vu P w dT sT ty elem i dp sp pX vP lY qy hu hi hm.symm, by simpa [splice] using hg, hb, rfl, fun _ _ => rfl⟩
 ·obtain ⟨rfl, a, rfl, hsrc⟩ := hpos oM;refine ⟨_, vv P w dT sT ty elem i size g o pX vP a lY qy cur.toArray t cs m hu hi hs hg hm hn hsrc (by simpa using hfit) h1, ?_, below_setRow hb hBg _, by simp [World.setRow], fun k hk => setRow_other w g k _ (fun e => hk oM)⟩;simpa [splice] using setRow_heap w g _ _ t _ hg
theorem qp {P : Program} {w : World} {ops : Array Oper} {rest : List Oper} {o : Oper} {a : Act} {Q : Exit → Act → World → Prop} (hgd : o.guard = none) (d s : Operand) (dT sT : TypeId)
  (ho : o.op = .call { callee := .builtin .copy, args := #[d, s], argTypes := #[dT, sT] }) (elem : TypeId) (hu : P.underlying dT = some (.slice elem)) (i : TypeInfo) (hi : P.info? elem = some i) (size : Nat) (hsz : i.size = size)
  (dp sp : Option Addr) (pX vP lY qy : Nat) (hd : a.eval d = .slice dp pX vP) (hs : a.eval s = .slice sp lY qy)
  (g off : Nat) (cur : List Value) (t : TypeId) (hg : w.heap[g]? = some (.cells cur.toArray t (0, 0))) (cs : List Value) (m : Nat) (hm : m = Nat.min lY pX) (hn : cs.length = m * size)
  (hpos : 0 < m → dp = some ⟨g, off, none⟩ ∧ ∃ ad, sp = some ad ∧ ∀ j v, cs[j]? = some v → w.cell? (ad.add j) = some v)
  (hfit : off + cs.length ≤ cur.length) (h1 : ∀ v ∈ cs, v.oneCell' = true) (B : Nat) (w0 : World) (hb : Below B w0 w) (hBg : B ≤ g)
  (h : ∀ w', Hid (w'.heap[g]? = some (.cells (splice cur off cs).toArray t (0, 0))) → Below B w0 w' → wpList P ops Q rest (a.put o.dst (goInt m)) w') :
  wpList P ops Q (o :: rest) a w := by
 refine wpList_plain hgd fun K hK => ?_;obtain ⟨w', hrun, h2, h3, _⟩ := xG P w dT sT o.type elem i size dp sp g off pX vP lY qy cur t cs m hu hi hsz hg hm hn hpos hfit h1 B w0 hb hBg;unfold Oper.wp;simp [execOp, ho, resolve, invoke, builtin, hd, hs, hrun, Result.andThen];exact hK _ _ (h w' h2 h3)
theorem Rd.src {w : World} {B size n : Nat} {A : Option Addr} {xs : List Value} (hr : Rd w B size A n xs) (m : Nat) (hm : m ≤ n) :
  0 < m → ∃ ad, A = some ad ∧ ∀ j v, (xs.take (m * size))[j]? = some v → w.cell? (ad.add j) = some v := by
 intro h0;obtain ⟨b, off, e, _, hc⟩ := hr.2 oM;refine ⟨_, e, fun j v hv => ?_⟩;rw [List.getElem?_take] at hv;split at hv
 ·have e : (⟨b, off, none⟩ : Addr).add j = ⟨b, off + j, none⟩ := by unfold Addr.add; split <;> simp_all
  rw [e];exact hc j v hv
 ·cases hv
theorem BI {w : World} {base size n : Nat} {e : TypeId} {g : Nat} {xs : List Value} (h : w.ownsRow base e size (.slice (some ⟨g, 0, none⟩) n n) n xs) : w.heap[g]? = some (.cells xs.toArray e (0, 0)) ∧ base ≤ g := by
 obtain ⟨h1, h2⟩ := h;rcases h2 with ⟨h3, _⟩ | ⟨g', cap', cur, h3, hg, hh, _, _, h4, h5⟩
 ·cases h3
 ·injection h3 with h3 h6 h7
  injection h3 with h3
  injection h3 with h3
  subst h3 h7;refine ⟨?_, hg⟩;rw [hh, ← h5, List.take_of_length_le (by simp [h4])]
end Go.Proofs.YtapjfhbonfehpaaGreatDoor
