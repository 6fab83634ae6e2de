/- The builtin append onto a slice without room ('append(slices.Clip(s), x)'), nil let in: a new row. No program. -/
import Derived.Deep.RegionHeld3
import Derived.Test.YtapjfhbonfehpaaGreatDoorV04
import Derived.Test.YtapjfhbonfehpaaGreatDoorProg
import Derived.Deep.Strs
set_option linter.unusedSimpArgs false
set_option linter.unusedVariables false
namespace Go.Proofs.YtapjfhbonfehpaaGreatDoor
open Go.RowKit
theorem EO {α : Type} (g : α → List Value) (a : α) (s : Nat) (hs : 0 < s) (z : Array Value) (hz : z.toList = g a) (hg : ∀ a, (g a).length = s) (n : Nat) : (madeCells z (n * s)).toList = (List.replicate n a).flatMap g := by
 have hzs : z.size = s := by rw [← Array.length_toList, hz, hg]
 have hlen : ((List.replicate n a).flatMap g).length = n * s := by
  induction n with
  | zero => simp
  | succ n ih => rw [List.replicate_succ, List.flatMap_cons, List.length_append, ih, hg, Nat.succ_mul]; omega
 apply List.ext_getElem?;intro k;by_cases hk : k < n * s
 ·have h1 : k / s < n := Nat.div_lt_of_lt_mul (by rwa [Nat.mul_comm] at hk);have h2 := dn hg (List.replicate n a) (k / s) a (by simp [List.getElem?_replicate, h1]) (k % s) (Nat.mod_lt _ hs);rw [show k / s * s + k % s = k from by rw [Nat.mul_comm]; exact Nat.div_add_mod k s] at h2;have h3 : k % s < z.size := by rw [hzs]; exact Nat.mod_lt k hs
  rw [h2, ← hz, Array.getElem?_toList, Array.getElem?_toList];simp only [madeCells];rw [Array.getElem?_map, Array.getElem?_range];simp [hk, hzs, h3, Nat.mod_lt k hs]
 ·rw [List.getElem?_eq_none (by rw [Array.length_toList, size_madeCells]; omega), List.getElem?_eq_none (by rw [hlen]; omega)]
theorem gS {P : Program} {o : Oper} {a : Act} {w : World} {K : Act → World → Prop} {Q : Exit → Act → World → Prop} (l c : Operand) (t : TypeId) (hop : o.op = Op.makeSlice t l c)
  (e : TypeId) (i : TypeInfo) (z : Value) (size bytes : Nat) (h1 : P.underlying t = some (.slice e)) (h2 : P.info? e = some i) (h3 : i.zero = some z) (h4 : i.size = size) (h5 : i.bytes = bytes)
  (kl kc : IntKind) (n : Nat) (hl : a.eval l = .int kl (n : Int)) (hc : a.eval c = .int kc (n : Int)) (b2 : bytes * n ≤ 281474976710656) (b3 : n ≤ maxLen) (xs : List Value) (hx : (madeCells z.cells (n * size)).toList = xs)
  (hK : ∀ w', Hid (w'.ownsRow w.heap.size e size (.slice (some ⟨w.heap.size, 0, none⟩) n n) n xs) → Below w.heap.size w w' → w.heap.size < w'.heap.size → K (a.put o.dst (.slice (some ⟨w.heap.size, 0, none⟩) n n)) w') :
  Oper.wp P o a w K Q := by
 subst h5 hx;obtain ⟨w', hrun, r1, r2⟩ := run_make_full (P := P) w w.heap.size t e i z size h1 h2 h3 h4 kl kc n b2 b3 (Nat.le_refl _);unfold Oper.wp;simp [execOp, hop, hl, hc, hrun, Result.andThen];refine hK w' r1 (Below.grown (Below.refl _ _) r2 (Nat.le_refl _) (fun k hk => by cases hk)) ?_;obtain ⟨_, h⟩ := r1;rcases h with ⟨e1, _⟩ | ⟨g', cap', cur, e1, hb, hg, _⟩
 ·cases e1
 ·injection e1 with e1 _ _
  injection e1 with e1
  injection e1 with e1 _
  subst e1;exact (Array.getElem?_eq_some_iff.1 hg).1
end Go.Proofs.YtapjfhbonfehpaaGreatDoor
namespace Go.Proofs.YtapjfhbonfehpaaGreatDoor
open Go.ChangeShapes Go.WideShapes Go.ChangeAt Go.RowKit Go.Deep
section
variable {H : Type} {enc : TypeId × Value → H} {P : Program} {w : World} {base : Nat} {spare : Nat → Bool} {held : Bool}
theorem jC {t e : TypeId} {C : Nat} {u : Value} {y : DataW H × List MemPlace} {fuel : Nat} (ht : P.underlying t = some (.slice e)) (hC : P.cellsOf e = C) (hpos : 0 < C) (hf : DataW.trod enc P w base spare held fuel t [u] = some y) :
  ∃ (A : Option Addr) (n cap : Nat) (xs : List Value), u = .slice A n cap ∧ n ≤ cap ∧ n ≤ maxLen ∧ Rd w w.heap.size C A n xs ∧
   ∀ i, i < n → ∃ (m : Nat) (cs : List Value) (y : DataW H × List MemPlace), cs.length = C ∧ (∀ j, j < C → xs[i * C + j]? = cs[j]?) ∧ DataW.trod enc P w base spare held m e cs = some y := by
 rcases open_slice ht hf with ⟨hcs, hx⟩ | ⟨a, n, cap, m, fu, D, Pl, hcs, hb, hl, hm, Gb, hx, hi⟩
 ·injection hcs with hcs _
  subst hcs;exact ⟨none, 0, 0, [], rfl, Nat.zero_le _, Nat.zero_le _, Rd.nil _ _ _ _, fun i hi => absurd hi (Nat.not_lt_zero i)⟩
 ·injection hcs with hcs _
  subst hcs;have hlen : n ≤ m := by rw [Gb]; split <;> omega
  have key : ∀ i, i < n → ∃ cs : List Value, cs.length = C ∧ (∀ j, j < C → w.cell? (a.add (i * C + j)) = cs[j]?) ∧ ∃ y, DataW.trod enc P w base spare held fu e cs = some y := by
   intro i hin;obtain ⟨cs', hc, Ct⟩ := hi i oM;rw [hC] at hc;obtain ⟨_, hcl, hat⟩ := World.cells?_some hc;exact ⟨cs', hcl, fun j hj => by rw [← Go.Deep.add_add]; exact hat j hj, _, Ct⟩
  let F : Nat → Value := fun q => (w.cell? (a.add q)).getD undef
  have hF : ∀ q, q < n * C → w.cell? (a.add q) = some (F q) := by
   intro q hq;have h1 : q / C < n := Nat.div_lt_of_lt_mul (by rw [Nat.mul_comm]; exact hq);have h2 : q % C < C := Nat.mod_lt _ hpos;obtain ⟨cs, hl, hj, _⟩ := key (q / C) h1;have h3 := hj (q % C) h2;rw [Nat.mul_comm, Nat.div_add_mod] at h3;show _ = some ((w.cell? (a.add q)).getD undef);rw [h3, List.getElem?_eq_getElem oM];rfl
  refine ⟨some a, n, cap, (List.range (n * C)).map F, rfl, hl, by omega, ⟨by simp, fun hn => ?_⟩, fun i hin => ?_⟩
  ·obtain ⟨b, off, rfl, hb', OP⟩ := tN (n := n * C) (f := F) hF (Nat.mul_pos hn hpos);refine ⟨b, off, rfl, hb', fun j u hu => ?_⟩;rw [List.getElem?_map, Option.map_eq_some_iff] at hu;obtain ⟨z, hz1, rfl⟩ := hu;obtain ⟨hz2, hz3⟩ := List.getElem?_eq_some_iff.1 hz1;rw [List.length_range] at hz2;rw [List.getElem_range] at hz3;subst hz3;exact OP _ hz2
  ·obtain ⟨cs, hl, hj, y, hy⟩ := key i hin;refine ⟨fu, cs, y, hl, fun j hjC => ?_, hy⟩;have hq : i * C + j < n * C := by
    have : (i + 1) * C ≤ n * C := Nat.mul_le_mul_right _ hin;rw [Nat.succ_mul] at this;omega
   rw [List.getElem?_map, List.getElem?_range hq];show some (F _) = _;rw [← hF _ hq, hj j hjC]
theorem fields_of {e : TypeId} {fs : Array Field} {m : Nat} {cs : List Value} {y : DataW H × List MemPlace} (he : P.underlying e = some (.struct fs)) (rT : oneCellFields P fs = true) (hl : cs.length = fs.size) (h : DataW.trod enc P w base spare held m e cs = some y) :
  ∃ m' : Nat, ∀ (j : Nat) (f : Field), fs[j]? = some f → ∃ (u : Value) (y : DataW H × List MemPlace), cs[j]? = some u ∧ DataW.trod enc P w base spare held m' f.type [u] = some y := by
 obtain ⟨ys, n', Qo, hy, acO, hyl, hf'⟩ := DataW.trod_struct he h;refine ⟨n', fun j f hj => ?_⟩;obtain ⟨ho, hk⟩ := hone_of rT j f hj;have hjl : j < fs.size := (Array.getElem?_eq_some_iff.1 hj).1;have h1 := hf' j f hj;rw [ho, hk] at h1;have S5 : (cs.drop j).take 1 = [cs[j]'(by omega)] := by
  rw [List.drop_eq_getElem_cons oM];rfl
 rw [S5] at h1;have hys : ys[j]? = some (ys[j]'(by omega)) := List.getElem?_eq_getElem oM;exact ⟨_, _, List.getElem?_eq_getElem oM, h1.trans hys⟩
theorem qB {t e : TypeId} {k : IntKind} {u : Value} {y : DataW H × List MemPlace} {fuel : Nat} (ht : P.underlying t = some (.slice e)) (he : P.underlying e = some (.int k)) (hc : P.cellsOf e = 1) (hf : DataW.trod enc P w base spare held fuel t [u] = some y) :
  ∃ (A : Option Addr) (n cap : Nat) (zs : List Int), u = .slice A n cap ∧ n ≤ maxLen ∧ zs.length = n ∧ Rd w w.heap.size 1 A n (zs.map (Value.int k)) ∧ ∀ z ∈ zs, (Lit.int k z).wf = true := by
 obtain ⟨A, n, cap, xs, rfl, -, hm, hr, hx⟩ := jC ht hc dM hf;obtain ⟨l, h1, h2, rfl⟩ := mU 1 (fun z : Int => [Value.int k z]) (fun _ => rfl) (fun z => (Lit.int k z).wf = true) n xs hr.1 (fun i hi => by
  obtain ⟨m, cs, y, h1, h2, h3⟩ := hx i hi
  match cs, h1, h2, h3 with
  | [c], _, h2, h3 =>
   obtain ⟨z, rfl, hw⟩ := iy he h3;exact ⟨z, hw, h2⟩)
 refine ⟨A, n, cap, l, rfl, hm, h1, ?_, h2⟩;rw [← List.map_eq_flatMap] at hr;exact hr
end
end Go.Proofs.YtapjfhbonfehpaaGreatDoor
namespace Go.Proofs.YtapjfhbonfehpaaGreatDoor
open Go.RowKit
theorem jy {P : Program} (w : World) (base : Nat) (t ty e : TypeId) (i : TypeInfo) (z : Value) (size bytes : Nat) (ht : P.underlying t = some (.slice e)) (hi : P.info? e = some i) (hz : i.zero = some z)
  (hsize : i.size = size) (hby : i.bytes = bytes) (hzs : z.cells.size = size) (hsz : 0 < size)
  (v : Value) (n : Nat) (xs : List Value) (hown : w.ownsRow base e size v n xs)
  (A : Option Addr) (m c : Nat) (news : List Value) (hl : news.length = m * size) (hnews : 0 < m → ∃ a, A = some a ∧ ∀ j u, news[j]? = some u → w.cell? (a.add j) = some u) (h1 : ∀ u ∈ news, u.oneCell' = true)
  (h63 : n + m ≤ maxLen) (hbytes : (n + m) * bytes ≤ 140737488355328) (hbase : base ≤ w.heap.size) :
  ∃ v' w', (Builtin.append_ #[t, t] ty #[v, .slice A m c]).run P w = .ok v' w' ∧ w'.ownsRow base e size v' (n + m) (xs ++ news) ∧ w.grownBy w' v.ownBlock := by
 cases A with
 | some a =>
  obtain ⟨v', w', h2, h3, h4, _⟩ := run_append_own w base t ty e i z size bytes ht hi hz hsize hby hzs hsz v n xs hown a m c news hl (fun j u hu => by
   rcases Nat.eq_zero_or_pos m with h0 | h0
   ·subst h0;obtain rfl : news = [] := List.eq_nil_of_length_eq_zero (by simpa using hl);simp at hu
   ·obtain ⟨a', e, h⟩ := hnews h0;injection e with e
    subst e;exact h j u hu) h1 h63 hbytes hbase
  exact ⟨v', w', h2, h3, h4⟩
 | none =>
  rcases Nat.eq_zero_or_pos m with h0 | h0
  ·subst h0;obtain rfl : news = [] := List.eq_nil_of_length_eq_zero (by simpa using hl);refine ⟨v, w, ?_, by simpa using hown, ⟨rfl, rfl, rfl, Nat.le_refl _, fun _ _ _ => rfl⟩⟩;rcases hown.2 with ⟨rfl, rfl⟩ | ⟨g, cap, cur, rfl, _, _, hnc, _⟩
   ·simp [Builtin.append_, run_underlying ht, sizeOf, typeInfo, hi, Builtin.lenOf, Builtin.firstCells]
   ·simp [Builtin.append_, run_underlying ht, sizeOf, typeInfo, hi, Builtin.lenOf, Builtin.firstCells, hnc, storeCells]
  ·obtain ⟨a', e, _⟩ := hnews h0;cases e
theorem aK {P : Program} {w : World} {ops : Array Oper} {rest : List Oper} {o : Oper} {a : Act} {Q : Exit → Act → World → Prop} (hgd : o.guard = none) (s x : Operand) (t : TypeId)
  (ho : o.op = .call { callee := .builtin .append, args := #[s, x], argTypes := #[t, t] })
  (base : Nat) (e : TypeId) (i : TypeInfo) (z : Value) (size bytes : Nat) (ht : P.underlying t = some (.slice e)) (hi : P.info? e = some i) (hz : i.zero = some z)
  (hsize : i.size = size) (hby : i.bytes = bytes) (hzs : z.cells.size = size) (hsz : 0 < size)
  (v : Value) (n : Nat) (xs : List Value) (hs : a.eval s = v) (hown : w.ownsRow base e size v n xs)
  (A : Option Addr) (m c : Nat) (news : List Value) (hx : a.eval x = .slice A m c) (B2 : Nat) (hr : Rd w B2 size A m news) (h1 : ∀ u ∈ news, u.oneCell' = true)
  (h63 : n + m ≤ maxLen) (hbytes : (n + m) * bytes ≤ 140737488355328) (hbase : base ≤ w.heap.size) (B : Nat) (w0 : World) (hb : Below B w0 w) (hB : B ≤ base)
  (h : ∀ v' w', w'.ownsRow base e size v' (n + m) (xs ++ news) → Below B w0 w' → w.heap.size ≤ w'.heap.size → wpList P ops Q rest (a.put o.dst v') w') : wpList P ops Q (o :: rest) a w := by
 refine wpList_plain hgd fun K hK => ?_;obtain ⟨v', w', uU, h2, h3⟩ := jy (P := P) w base t o.type e i z size bytes ht hi hz hsize hby hzs hsz v n xs hown A m c news hr.1 (fun h0 => by
  obtain ⟨b, off, e, _, hc⟩ := hr.2 h0;exact ⟨_, e, fun j u hu => by rw [Go.WideShapes.add_plain]; exact hc j u hu⟩) h1 h63 hbytes hbase
 unfold Oper.wp execOp;simp only [ho, resolve, invoke, builtin, Sem.run_bind, Sem.run_pure, Result.andThen_ok, List.map_toArray, List.map_cons, List.map_nil, hs, hx, uU];exact hK _ _ (h v' w' h2 (below_grown hb h3 hown hB (Nat.le_trans hB hbase)) h3.size)
theorem qA {P : Program} (w : World) (base : Nat) (t ty e : TypeId) (i : TypeInfo) (z : Value) (size bytes : Nat) (ht : P.underlying t = some (.slice e)) (hi : P.info? e = some i) (hz : i.zero = some z)
  (hsize : i.size = size) (hby : i.bytes = bytes)
  (v : Value) (n : Nat) (xs : List Value) (hown : w.ownsRow base e size v n xs)
  (A : Option Addr) (m c : Nat) (news : List Value) (hl : news.length = m * size) (hnews : 0 < m → ∃ a, A = some a ∧ ∀ j u, news[j]? = some u → w.cell? (a.add j) = some u) (h1 : ∀ u ∈ news, u.oneCell' = true)
  (h63 : n + m ≤ maxLen) (hbytes : (n + m) * bytes ≤ 140737488355328) (v' : Value) (w' : World) (hr : (Builtin.append_ #[t, t] ty #[v, .slice A m c]).run P w = .ok v' w') :
  v'.ownBlock = v.ownBlock ∨ v'.ownBlock = some w.heap.size := by
 subst hsize hby;have hsmall : n + m ≤ 9223372036854775807 := by simp only [maxLen] at h63; omega
 rcases Nat.eq_zero_or_pos m with h0 | h0
 ·subst h0;left;have hf : (Builtin.firstCells i.size 0 (.slice A 0 c)).run P w = .ok #[] w := by
   cases A with
   | none => simp [Builtin.firstCells]
   | some a => exact run_firstCells_some (P := P) (w := w) i.size 0 a 0 c [] sM sM
  rcases hown.2 with ⟨rfl, rfl⟩ | ⟨g, cap, cur, rfl, _, _, hnc, _⟩
  ·simp [Builtin.append_, run_underlying ht, sizeOf, typeInfo, hi, Builtin.lenOf, hf] at hr;rw [← hr.1]
  ·simp [Builtin.append_, run_underlying ht, sizeOf, typeInfo, hi, Builtin.lenOf, hf, hnc, storeCells] at hr;rw [← hr.1]
 ·obtain ⟨a, rfl, hc⟩ := hnews h0;rcases hown.2 with ⟨rfl, rfl⟩ | ⟨g, cap, cur, rfl, hbg, hg, hnc, hcm, hcs, pL⟩
  ·right;rw [run_append_nil (P := P) w t ty e i z ht hi hz a m c news hl hc h0 oM (by have hb := hbytes; simp only [Nat.zero_add] at hb; omega)] at hr;injection hr with hr _
   rw [← hr];rfl
  ·by_cases hroom : n + m ≤ cap
   ·left;have hfit : n * i.size + news.length ≤ cur.size := (by rw [hl, hcs, ← Nat.add_mul]; exact Nat.mul_le_mul_right _ hroom);rw [run_append_room (P := P) w t ty e i ht hi g n cap cur hg a m c news hl hc h1 hroom hfit] at hr;injection hr with hr _
    rw [← hr];rfl
   ·right;have holds : ∀ j u, xs[j]? = some u → w.cell? ((⟨g, 0, none⟩ : Addr).add j) = some u := hown.cells (g := g) rfl;rw [run_append_grow (P := P) w t ty e i z ht hi hz ⟨g, 0, none⟩ n cap xs hown.1 holds a m c news hl hc oM oM (growslice_fits oM hbytes)] at hr;injection hr with hr _
    rw [← hr];rfl
theorem aX {w : World} {base size n : Nat} {e : TypeId} {v : Value} {xs : List Value} (h : w.ownsRow base e size v n xs) : ∃ A cap, v = .slice A n cap ∧ n ≤ cap ∧ ∀ b off, A = some ⟨b, off, none⟩ → base ≤ b := by
 obtain ⟨_, h2⟩ := h;rcases h2 with ⟨rfl, rfl⟩ | ⟨g, cap, cur, rfl, hg, _, hc, _⟩
 ·exact ⟨none, 0, rfl, Nat.le_refl _, fun b off e => by cases e⟩
 ·refine ⟨_, cap, rfl, hc, fun b off e => ?_⟩;injection e with e
  injection e with e
  omega
theorem sS {P : Program} {ops : Array Oper} {o : Oper} {a : Act} {w : World} {K : Act → World → Prop} {Q : Exit → Act → World → Prop} {E : Prop} (hgd : o.guard = none) (s x : Operand) (t : TypeId)
  (ho : o.op = .call { callee := .builtin .append, args := #[s, x], argTypes := #[t, t] })
  (base : Nat) (e : TypeId) (i : TypeInfo) (z : Value) (size bytes : Nat) (ht : P.underlying t = some (.slice e)) (hi : P.info? e = some i) (hz : i.zero = some z)
  (hsize : i.size = size) (hby : i.bytes = bytes) (hzs : z.cells.size = size) (hsz : 0 < size)
  (v : Value) (n : Nat) (xs : List Value) (hs : a.eval s = v) (hown : w.ownsRow base e size v n xs)
  (A : Option Addr) (m c : Nat) (news : List Value) (hx : a.eval x = .slice A m c) (B2 : Nat) (hr : Rd w B2 size A m news) (h1 : ∀ u ∈ news, u.oneCell' = true)
  (h63 : n + m ≤ maxLen) (hbytes : (n + m) * bytes ≤ 140737488355328) (hbase : base ≤ w.heap.size) (B : Nat) (w0 : World) (hb : Below B w0 w) (hB : B ≤ base)
  (h : ∀ v' w', w'.ownsRow base e size v' (n + m) (xs ++ news) → Below B w0 w' → w.heap.size ≤ w'.heap.size → K (a.put o.dst v') w') :
  if Region.wanted o (yielded ops a.tmps) = true then Oper.wp P o a w K Q else E := by
 have hw : Region.wanted o (yielded ops a.tmps) = true := by simp [Region.wanted, hgd]
 rw [if_pos hw];obtain ⟨v', w', uU, h2, h3⟩ := jy (P := P) w base t o.type e i z size bytes ht hi hz hsize hby hzs hsz v n xs hown A m c news hr.1 (fun h0 => by
  obtain ⟨b, off, e, _, hc⟩ := hr.2 h0;exact ⟨_, e, fun j u hu => by rw [Go.WideShapes.add_plain]; exact hc j u hu⟩) h1 h63 hbytes hbase
 unfold Oper.wp execOp;simp only [ho, resolve, invoke, builtin, Sem.run_bind, Sem.run_pure, Result.andThen_ok, List.map_toArray, List.map_cons, List.map_nil, hs, hx, uU];exact h v' w' h2 (below_grown hb h3 hown hB (Nat.le_trans hB hbase)) h3.size
end Go.Proofs.YtapjfhbonfehpaaGreatDoor
namespace Go.Proofs.YtapjfhbonfehpaaGreatDoor
open Go.RowKit
theorem Eo : Tryz.prog.stoodInHeld 56 = false := by kernel_rfl
theorem uH : Tryz.prog.fieldsOf 56 = #[⟨"Val", 2, 0, false, "", "", 0⟩, ⟨"Ver", 54, 1, false, "", "", 8⟩, ⟨"Ref", 54, 2, false, "", "", 12⟩] := by simp [Program.fieldsOf, Tryz.underlying56]
theorem UA (d : Nat) (a b c a' b' c' : Int) (w : World) : (Op.equalIn (d + 2) 56 (.agg #[.int .i64 a, .int .u32 b, .int .u32 c]) (.agg #[.int .i64 a', .int .u32 b', .int .u32 c'])).run Tryz.prog w = .ok (a == a' && (b == b' && c == c')) w := by
 rw [run_equalIn_struct w (d + 1) 56 _ _ (by rw [uH]; exact Tryz.underlying56) Eo, uH];cases h1 : (a == a') <;> cases h2 : (b == b') <;> cases h3 : (c == c') <;> simp [Op.eqFields, go_sem, Result.andThen, h1, h2, h3]
def ql (x y : W3) : Bool := x.v == y.v && (x.r == y.r && x.f == y.f)
theorem DT (x y : W3) : ql x y = true ↔ x = y := by
 obtain ⟨a, b, c⟩ := x;obtain ⟨a', b', c'⟩ := y;simp [ql]
theorem Pq (x y : W3) (w : World) : (binOp .eql 56 (qg x) (qg y)).run Tryz.prog w = .ok (.bool (ql x y)) w := by
 rw [run_eql_struct, UA 9998];rfl
theorem sD (x y : W3) (w : World) : (binOp .neq 56 (qg x) (qg y)).run Tryz.prog w = .ok (.bool (!ql x y)) w := by
 rw [run_neq_struct, UA 9998];rfl
end Go.Proofs.YtapjfhbonfehpaaGreatDoor
namespace Go.Proofs.YtapjfhbonfehpaaGreatDoor
open Go.RowKit
theorem sZ {P : Program} (w : World) (t ty e : TypeId) (i : TypeInfo) (z : Value) (size bytes : Nat) (ht : P.underlying t = some (.slice e)) (hi : P.info? e = some i) (hz : i.zero = some z)
  (hsize : i.size = size) (hby : i.bytes = bytes) (B : Nat) (A : Option Addr) (m : Nat) (xs : List Value) (hr : Rd w B size A m xs) (hA : A = none → m = 0)
  (a : Addr) (c : Nat) (news : List Value) (hl : news.length = size) (hnews : ∀ j u, news[j]? = some u → w.cell? (a.add j) = some u)
  (h63 : m + 1 ≤ maxLen) (hbytes : (m + 1) * bytes ≤ 140737488355328) :
  ∃ cap' w', (Builtin.append_ #[t, t] ty #[.slice A m m, .slice (some a) 1 c]).run P w = .ok (.slice (some ⟨w.heap.size, 0, none⟩) (m + 1) cap') w' ∧ m + 1 ≤ cap' ∧ Rd w' w'.heap.size size (some ⟨w.heap.size, 0, none⟩) (m + 1) (xs ++ news) ∧ Below w.heap.size w w' := by
 subst hsize hby;have hsmall : m + 1 ≤ 9223372036854775807 := by simp only [maxLen] at h63; omega
 have nh : ∀ (zs : Array Value), Rd (w.drew.alloc (.cells (xs.toArray ++ news.toArray ++ zs) e)) (w.drew.alloc (.cells (xs.toArray ++ news.toArray ++ zs) e)).heap.size i.size (some ⟨w.heap.size, 0, none⟩) (m + 1) (xs ++ news) := by
  intro zs;refine ⟨by rw [List.length_append, hr.1, hl, Nat.succ_mul], fun _ => ⟨w.heap.size, 0, rfl, by simp, fun j u hu => ?_⟩⟩;have hj := (List.getElem?_eq_some_iff.1 hu).1;rw [Nat.zero_add];have hh : (w.drew.alloc (.cells (xs.toArray ++ news.toArray ++ zs) e)).heap[w.heap.size]? = some (.cells (xs.toArray ++ news.toArray ++ zs) e (0, 0)) := heap_alloc_new w.drew _;have : (xs.toArray ++ news.toArray ++ zs)[j]? = some u := by
   rw [← Array.getElem?_toList];simp only [Array.toList_append];rw [List.getElem?_append_left (by simpa using hj)];exact hu
  generalize xs.toArray ++ news.toArray ++ zs = cs at hh this ⊢;simp only [World.cell?, hh];exact this
 cases A with
 | none =>
  obtain rfl : m = 0 := hA rfl;obtain rfl : xs = [] := List.eq_nil_of_length_eq_zero (by simpa using hr.1);have hrun := run_append_nil (P := P) w t ty e i z ht hi hz a 1 c news (by omega) hnews (by omega) (by omega) (by omega);refine ⟨_, _, hrun, grownCap_ge w 1 0 e, ?_, ((Below.refl _ _).drew).alloc (Nat.le_refl _) _⟩;have h := nh (Builtin.zeroCells z.cells (grownCap w 1 0 e - 1));simpa using h
 | some b =>
  have holds : ∀ j u, xs[j]? = some u → w.cell? (b.add j) = some u := by
   intro j u hu;have hm : 0 < m := by
    rcases Nat.eq_zero_or_pos m with h0 | h0
    ·subst h0;obtain rfl : xs = [] := List.eq_nil_of_length_eq_zero (by simpa using hr.1);simp at hu
    ·exact h0
   obtain ⟨b', off, e', _, hc⟩ := hr.2 hm;injection e' with e'
   subst e';rw [Go.WideShapes.add_plain];exact hc j u hu
  have hrun := run_append_grow (P := P) w t ty e i z ht hi hz b m m xs hr.1 holds a 1 c news (by omega) hnews (by omega) (by omega) (growslice_fits (by omega) hbytes);refine ⟨_, _, hrun, grownCap_ge w (m + 1) m e, nh _, ((Below.refl _ _).drew).alloc (Nat.le_refl _) _⟩
theorem lv {P : Program} {ops : Array Oper} {o : Oper} {a : Act} {w : World} {K : Act → World → Prop} {Q : Exit → Act → World → Prop} {E : Prop} (hgd : o.guard = none) (s x : Operand) (t : TypeId)
  (ho : o.op = .call { callee := .builtin .append, args := #[s, x], argTypes := #[t, t] })
  (e : TypeId) (i : TypeInfo) (z : Value) (size bytes : Nat) (ht : P.underlying t = some (.slice e)) (hi : P.info? e = some i) (hz : i.zero = some z)
  (hsize : i.size = size) (hby : i.bytes = bytes) (B : Nat) (A : Option Addr) (m : Nat) (xs : List Value) (hs : a.eval s = .slice A m m) (hr : Rd w B size A m xs) (hA : A = none → m = 0)
  (ad : Addr) (c : Nat) (news : List Value) (hx : a.eval x = .slice (some ad) 1 c) (hl : news.length = size) (hnews : ∀ j u, news[j]? = some u → w.cell? (ad.add j) = some u)
  (h63 : m + 1 ≤ maxLen) (hbytes : (m + 1) * bytes ≤ 140737488355328)
  (h : ∀ cap' w', Hid (m + 1 ≤ cap') → Hid (Rd w' w'.heap.size size (some ⟨w.heap.size, 0, none⟩) (m + 1) (xs ++ news)) → Below w.heap.size w w' → w.heap.size < w'.heap.size → K (a.put o.dst (.slice (some ⟨w.heap.size, 0, none⟩) (m + 1) cap')) w') :
  if Region.wanted o (yielded ops a.tmps) = true then Oper.wp P o a w K Q else E := by
 have hw : Region.wanted o (yielded ops a.tmps) = true := by simp [Region.wanted, hgd]
 rw [if_pos hw];obtain ⟨cap', w', hrun, h1, h2, h3⟩ := sZ (P := P) w t o.type e i z size bytes ht hi hz hsize hby B A m xs hr hA ad c news hl hnews h63 hbytes;unfold Oper.wp;simp [execOp, ho, resolve, invoke, builtin, hs, hx, hrun, Result.andThen];refine h cap' w' h1 h2 h3 ?_;obtain ⟨b, off, e, hb, _⟩ := h2.2 oM;injection e with e
 injection e with e _
 omega
end Go.Proofs.YtapjfhbonfehpaaGreatDoor
