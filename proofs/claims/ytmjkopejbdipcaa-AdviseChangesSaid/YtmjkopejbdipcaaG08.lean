/- Package memory: Look. -/
import Derived.Laws.AppendOwn
import Derived.Laws.OwnMore
import Derived.Test.YtmjkopejbdipcaaG00
import Derived.Test.YtmjkopejbdipcaaG02
import Derived.Test.YtmjkopejbdipcaaG07
namespace Go.Proofs.Ytmjkopejbdipcaa
set_option linter.unusedSimpArgs false
set_option linter.unusedVariables false
open Go.RowKit Go.Maps
theorem enters {P : Program} {f : FuncId} {fn : Func} {c : Code} (hf : P.funcs[f]? = some fn) (hname : (fn.name == "runtime.NumGoroutine") = false) (hb : fn.body = some c) (args : Array Value) (w : World) : (callFunc f args).run P w = .ok (.enter f args) w := by
  have h1 : fn.name ≠ "runtime.NumGoroutine" := by simpa using hname
  simp [callFunc, go_sem, hf, h1, hb]
theorem last_enters (args : Array Value) (w : World) : (callFunc 77 args).run Try.prog w = .ok (.enter 77 args) w := enters Try.func77 (by kernel_rfl) rfl args w
theorem NewV.five {L g n c d : Nat} {vs : List VwV} {a : VwV} {w : World} (h : NewV L g n vs a w) (h1 : c ≠ g) (h2 : d ≠ g) {u0 u1 u2 u3 u4 : Value} (c0 : w.cell? ⟨c, 0, none⟩ = some u0) (c1 : w.cell? ⟨c, 1, none⟩ = some u1) (c2 : w.cell? ⟨d, 0, none⟩ = some u2) (c3 : w.cell? ⟨d, 1, none⟩ = some u3) (c4 : w.cell? ⟨d, 2, none⟩ = some u4) (x0 x1 x2 x3 x4 : Value) : NewV L g n vs a (((((w.setCell ⟨c, 0, none⟩ x0).setCell ⟨c, 1, none⟩ x1).setCell ⟨d, 0, none⟩ x2).setCell ⟨d, 1, none⟩ x3).setCell ⟨d, 2, none⟩ x4) :=
  NewV.set (NewV.set (NewV.set (NewV.set (NewV.set h h1 (.of c0) _) h1 (.set (.of c1) _) _) h2 (.set (.set (.of c2) _) _) _) h2 (.set (.set (.set (.of c3) _) _) _) _) h2 (.set (.set (.set (.set (.of c4) _) _) _) _) _
theorem Below.five {N c d : Nat} {w w' : World} (h : Below N w w') (h1 : N ≤ c) (h2 : N ≤ d) (x0 x1 x2 x3 x4 : Value) : Below N w (((((w'.setCell ⟨c, 0, none⟩ x0).setCell ⟨c, 1, none⟩ x1).setCell ⟨d, 0, none⟩ x2).setCell ⟨d, 1, none⟩ x3).setCell ⟨d, 2, none⟩ x4) :=
  Below.setCell (Below.setCell (Below.setCell (Below.setCell (Below.setCell h h1 _) h1 _) h2 _) h2 _) h2 _
set_option maxHeartbeats 2000000 in
set_option maxRecDepth 100000 in
theorem mem_Look (m : MemV) (t k n : Nat) (h : HistV) (g : MsgV) (a : VwV) (w : World) (hR : m.R w) (hh : m.hs[k]? = some h) (hl : h.l.length = n + 1) (hg : h.l[n]? = some g) (ha : m.vs[t]? = some a) (hn : m.vs.length ≤ 1000) (hL : m.hs.length ≤ 4096) (hi6 : n ≤ 1000000) :
    Calls Try.prog 71 #[(.agg #[.slice (m).pA (m).hs.length (m).pc, .slice (m).vA (m).vs.length (m).vc]), .int .i64 ((t : Int) + 1), .int .i64 k] w fun e w' => ∃ G v', e = .returned (.tuple #[.agg #[.slice m.pA m.hs.length m.pc, .slice (some ⟨G, 0, none⟩) m.vs.length m.vs.length], (.agg #[.int .i64 (g.x).v, .int .u32 (g.x).r, .int .u32 (g.x).f]), .int .i64 0]) ∧ w.heap.size ≤ G ∧ (m.with (some ⟨G, 0, none⟩) m.vs.length t ⟨v', joinF (withF a.f k n) g.a.f⟩).R w' ∧ Below w.heap.size w w' := by
  have htn : t < m.vs.length := (List.getElem?_eq_some_iff.1 ha).1
  have hlook := fun W (hw : m.R W) => mem_look_yes m 77 (.int .i64 0) t k n h g a W hw hh hg ha hn hL hi6 last_enters (fun W2 _ => pick_last h n 0 (a.f k) W2 hl hi6)
  obtain ⟨pA, pc, hs, vA, vc, vs⟩ := m
  simp only at hlook htn
  have Hlook := hide hlook
  have HR := hide hR
  clear hlook hR hh hg ha hn hL hi6 hl
  go_enter Try.func71, Try.ntmps71
  go_wp2_with (first
    | (go_at_call 76; refine (Hlook.out _ (HR.out.below (by repeat' (first | with_reducible exact Below.refl _ _ | with_reducible assumption | with_reducible refine Below.alloc ?_ ?_ _ | with_reducible refine Below.setCell ?_ ?_ _ | with_reducible refine Below.drew ?_ | with_reducible refine below_drewN ?_ _ | with_reducible refine Below.trans ?_ (Below.mono (by with_reducible assumption) ?_) | omega | (simp <;> omega))))).mono ?_; rintro e w1 ⟨g5, v5, rfl, hg5, hm5, hb1⟩; (try simp at hg5); obtain ⟨hcc1, hff1⟩ := bcell hb1; have hs1 := hb1.size; (try simp at hs1); have hz1 : w.heap.size + 1 < w1.heap.size := (by omega); have hz2 : w.heap.size + 1 + 1 < w1.heap.size := (by omega); have Hv5 : Hid (NewV hs.length g5 vs.length (vs.set t ⟨v5, joinF (withF a.f k n) g.a.f⟩) ⟨v5, joinF (withF a.f k n) g.a.f⟩ w1) := hide (NewV.of rfl htn hm5); clear hm5))
  have c0 : w1.cell? ⟨w.heap.size + 1, 0, none⟩ = some (.slice none 0 0) := by go_simp
  have c1 : w1.cell? ⟨w.heap.size + 1, 1, none⟩ = some (.slice none 0 0) := by go_simp
  have c2 : w1.cell? ⟨w.heap.size + 1 + 1, 0, none⟩ = some (.int .i64 0) := by go_simp
  have c3 : w1.cell? ⟨w.heap.size + 1 + 1, 1, none⟩ = some (.int .u32 0) := by go_simp
  have c4 : w1.cell? ⟨w.heap.size + 1 + 1, 2, none⟩ = some (.int .u32 0) := by go_simp
  have hB1 : Below w.heap.size w w1 := (by repeat' (first | with_reducible exact Below.refl _ _ | with_reducible assumption | with_reducible refine Below.alloc ?_ ?_ _ | with_reducible refine Below.setCell ?_ ?_ _ | with_reducible refine Below.drew ?_ | with_reducible refine below_drewN ?_ _ | with_reducible refine Below.trans ?_ (Below.mono (by with_reducible assumption) ?_) | omega | (simp <;> omega)))
  have Hvz := hide (NewV.five Hv5.out (c := w.heap.size + 1) (d := w.heap.size + 1 + 1) (by omega) (by omega) c0 c1 c2 c3 c4 (.slice pA hs.length pc) (.slice (some ⟨g5, 0, none⟩) vs.length vs.length) (.int .i64 g.x.v) (.int .u32 g.x.r) (.int .u32 g.x.f))
  have HBz := hide (Below.five hB1 (c := w.heap.size + 1) (d := w.heap.size + 1 + 1) (by omega) (by omega) (.slice pA hs.length pc) (.slice (some ⟨g5, 0, none⟩) vs.length vs.length) (.int .i64 g.x.v) (.int .u32 g.x.r) (.int .u32 g.x.f))
  refine bodyPost_ret (v := .tuple #[.agg #[.slice pA hs.length pc, .slice (some ⟨g5, 0, none⟩) vs.length vs.length], (.agg #[.int .i64 (g.x).v, .int .u32 (g.x).r, .int .u32 (g.x).f]), .int .i64 0]) (by simp [results, Try.results71, go_sem]; (try go_simp)) rfl ⟨g5, v5, rfl, by omega, MemV.with_R HR.out ?_ rfl ?_ ?_, ?_⟩
  · with_reducible exact HBz.out
  · with_reducible exact Hvz.out.rd
  · with_reducible exact Hvz.out.r
  · with_reducible exact HBz.out
end Go.Proofs.Ytmjkopejbdipcaa
namespace Go.Proofs.Ytmjkopejbdipcaa
set_option linter.unusedSimpArgs false
set_option linter.unusedVariables false
open Go.RowKit

theorem run_append_any {P : Program} (w : World) (base : Nat) (t ty e : TypeId) (i : TypeInfo) (z : Value) (size bytes : Nat) (ht : P.underlying t = some (.slice e)) (hi : P.info? e = some i) (hz : i.zero = some z)
    (hsize : i.size = size) (hby : i.bytes = bytes) (hzs : z.cells.size = size) (hsz : 0 < size)
    (v : Value) (n : Nat) (xs : List Value) (hown : w.ownsRow base e size v n xs)
    (A : Option Addr) (m c : Nat) (news : List Value) (hl : news.length = m * size) (hnews : 0 < m → ∃ a, A = some a ∧ ∀ j u, news[j]? = some u → w.cell? (a.add j) = some u) (h1 : ∀ u ∈ news, u.oneCell' = true)
    (h63 : n + m ≤ maxLen) (hbytes : (n + m) * bytes ≤ 140737488355328) (hbase : base ≤ w.heap.size) :
    ∃ v' w', (Builtin.append_ #[t, t] ty #[v, .slice A m c]).run P w = .ok v' w' ∧ w'.ownsRow base e size v' (n + m) (xs ++ news) ∧ w.grownBy w' v.ownBlock := by
  cases A with
  | some a =>
    obtain ⟨v', w', h2, h3, h4, _⟩ := run_append_own w base t ty e i z size bytes ht hi hz hsize hby hzs hsz v n xs hown a m c news hl (fun j u hu => by
      rcases Nat.eq_zero_or_pos m with h0 | h0
      · subst h0
        obtain rfl : news = [] := List.eq_nil_of_length_eq_zero (by simpa using hl)
        simp at hu
      · obtain ⟨a', e, h⟩ := hnews h0
        injection e with e
        subst e
        exact h j u hu) h1 h63 hbytes hbase
    exact ⟨v', w', h2, h3, h4⟩
  | none =>
    rcases Nat.eq_zero_or_pos m with h0 | h0
    · subst h0
      obtain rfl : news = [] := List.eq_nil_of_length_eq_zero (by simpa using hl)
      refine ⟨v, w, ?_, by simpa using hown, ⟨rfl, rfl, rfl, Nat.le_refl _, fun _ _ _ => rfl⟩⟩
      rcases hown.2 with ⟨rfl, rfl⟩ | ⟨g, cap, cur, rfl, _, _, hnc, _⟩
      · simp [Builtin.append_, run_underlying ht, sizeOf, typeInfo, hi, Builtin.lenOf, Builtin.firstCells]
      · simp [Builtin.append_, run_underlying ht, sizeOf, typeInfo, hi, Builtin.lenOf, Builtin.firstCells, hnc, storeCells]
    · obtain ⟨a', e, _⟩ := hnews h0
      cases e

theorem wpList_append_rd {P : Program} {w : World} {ops : Array Oper} {rest : List Oper} {o : Oper} {a : Act} {Q : Exit → Act → World → Prop} (hgd : o.guard = none) (s x : Operand) (t : TypeId)
    (ho : o.op = .call { callee := .builtin .append, args := #[s, x], argTypes := #[t, t] })
    (base : Nat) (e : TypeId) (i : TypeInfo) (z : Value) (size bytes : Nat) (ht : P.underlying t = some (.slice e)) (hi : P.info? e = some i) (hz : i.zero = some z)
    (hsize : i.size = size) (hby : i.bytes = bytes) (hzs : z.cells.size = size) (hsz : 0 < size)
    (v : Value) (n : Nat) (xs : List Value) (hs : a.eval s = v) (hown : w.ownsRow base e size v n xs)
    (A : Option Addr) (m c : Nat) (news : List Value) (hx : a.eval x = .slice A m c) (B2 : Nat) (hr : Rd w B2 size A m news) (h1 : ∀ u ∈ news, u.oneCell' = true)
    (h63 : n + m ≤ maxLen) (hbytes : (n + m) * bytes ≤ 140737488355328) (hbase : base ≤ w.heap.size) (B : Nat) (w0 : World) (hb : Below B w0 w) (hB : B ≤ base)
    (h : ∀ v' w', w'.ownsRow base e size v' (n + m) (xs ++ news) → Below B w0 w' → w.heap.size ≤ w'.heap.size → wpList P ops Q rest (a.put o.dst v') w') : wpList P ops Q (o :: rest) a w := by
  refine wpList_plain hgd fun K hK => ?_
  obtain ⟨v', w', hr', h2, h3⟩ := run_append_any (P := P) w base t o.type e i z size bytes ht hi hz hsize hby hzs hsz v n xs hown A m c news hr.1 (fun h0 => by
    obtain ⟨b, off, e, _, hc⟩ := hr.2 h0
    exact ⟨_, e, fun j u hu => by rw [Go.WideShapes.add_plain]; exact hc j u hu⟩) h1 h63 hbytes hbase
  unfold Oper.wp execOp
  simp only [ho, resolve, invoke, builtin, Sem.run_bind, Sem.run_pure, Result.andThen_ok, List.map_toArray, List.map_cons, List.map_nil, hs, hx, hr']
  exact hK _ _ (h v' w' h2 (below_grown hb h3 hown hB (Nat.le_trans hB hbase)) h3.size)

/-- Where an append leaves its slice: in the same block, or in a new one. -/
theorem run_append_block {P : Program} (w : World) (base : Nat) (t ty e : TypeId) (i : TypeInfo) (z : Value) (size bytes : Nat) (ht : P.underlying t = some (.slice e)) (hi : P.info? e = some i) (hz : i.zero = some z)
    (hsize : i.size = size) (hby : i.bytes = bytes)
    (v : Value) (n : Nat) (xs : List Value) (hown : w.ownsRow base e size v n xs)
    (A : Option Addr) (m c : Nat) (news : List Value) (hl : news.length = m * size) (hnews : 0 < m → ∃ a, A = some a ∧ ∀ j u, news[j]? = some u → w.cell? (a.add j) = some u) (h1 : ∀ u ∈ news, u.oneCell' = true)
    (h63 : n + m ≤ maxLen) (hbytes : (n + m) * bytes ≤ 140737488355328) (v' : Value) (w' : World) (hr : (Builtin.append_ #[t, t] ty #[v, .slice A m c]).run P w = .ok v' w') :
    v'.ownBlock = v.ownBlock ∨ v'.ownBlock = some w.heap.size := by
  subst hsize hby
  have hsmall : n + m ≤ 9223372036854775807 := by simp only [maxLen] at h63; omega
  rcases Nat.eq_zero_or_pos m with h0 | h0
  · subst h0
    left
    have hf : (Builtin.firstCells i.size 0 (.slice A 0 c)).run P w = .ok #[] w := by
      cases A with
      | none => simp [Builtin.firstCells]
      | some a => exact run_firstCells_some (P := P) (w := w) i.size 0 a 0 c [] (by simp) (by simp)
    rcases hown.2 with ⟨rfl, rfl⟩ | ⟨g, cap, cur, rfl, _, _, hnc, _⟩
    · simp [Builtin.append_, run_underlying ht, sizeOf, typeInfo, hi, Builtin.lenOf, hf] at hr
      rw [← hr.1]
    · simp [Builtin.append_, run_underlying ht, sizeOf, typeInfo, hi, Builtin.lenOf, hf, hnc, storeCells] at hr
      rw [← hr.1]
  · obtain ⟨a, rfl, hc⟩ := hnews h0
    rcases hown.2 with ⟨rfl, rfl⟩ | ⟨g, cap, cur, rfl, hbg, hg, hnc, hcm, hcs, htake⟩
    · right
      rw [run_append_nil (P := P) w t ty e i z ht hi hz a m c news hl hc h0 (by omega) (by have hb := hbytes; simp only [Nat.zero_add] at hb; omega)] at hr
      injection hr with hr _
      rw [← hr]
      rfl
    · by_cases hroom : n + m ≤ cap
      · left
        have hfit : n * i.size + news.length ≤ cur.size := by rw [hl, hcs, ← Nat.add_mul]; exact Nat.mul_le_mul_right _ hroom
        rw [run_append_room (P := P) w t ty e i ht hi g n cap cur hg a m c news hl hc h1 hroom hfit] at hr
        injection hr with hr _
        rw [← hr]
        rfl
      · right
        have holds : ∀ j u, xs[j]? = some u → w.cell? ((⟨g, 0, none⟩ : Addr).add j) = some u := hown.cells (g := g) rfl
        rw [run_append_grow (P := P) w t ty e i z ht hi hz ⟨g, 0, none⟩ n cap xs hown.1 holds a m c news hl hc (by omega) (by omega) (growslice_fits (by omega) hbytes)] at hr
        injection hr with hr _
        rw [← hr]
        rfl

/-- The same append; a block that is not the row's stays what it is, and stays not the row's. -/
theorem wpList_append_rd2 {P : Program} {w : World} {ops : Array Oper} {rest : List Oper} {o : Oper} {a : Act} {Q : Exit → Act → World → Prop} (hgd : o.guard = none) (s x : Operand) (t : TypeId)
    (ho : o.op = .call { callee := .builtin .append, args := #[s, x], argTypes := #[t, t] })
    (base : Nat) (e : TypeId) (i : TypeInfo) (z : Value) (size bytes : Nat) (ht : P.underlying t = some (.slice e)) (hi : P.info? e = some i) (hz : i.zero = some z)
    (hsize : i.size = size) (hby : i.bytes = bytes) (hzs : z.cells.size = size) (hsz : 0 < size)
    (v : Value) (n : Nat) (xs : List Value) (hs : a.eval s = v) (hown : w.ownsRow base e size v n xs)
    (A : Option Addr) (m c : Nat) (news : List Value) (hx : a.eval x = .slice A m c) (B2 : Nat) (hr : Rd w B2 size A m news) (h1 : ∀ u ∈ news, u.oneCell' = true)
    (h63 : n + m ≤ maxLen) (hbytes : (n + m) * bytes ≤ 140737488355328) (hbase : base ≤ w.heap.size) (B : Nat) (w0 : World) (hb : Below B w0 w) (hB : B ≤ base)
    (h : ∀ v' w', w'.ownsRow base e size v' (n + m) (xs ++ news) → Below B w0 w' → w.heap.size ≤ w'.heap.size → Hid (∀ b, b < w.heap.size → v.ownBlock ≠ some b → v'.ownBlock ≠ some b ∧ w'.heap[b]? = w.heap[b]?) → wpList P ops Q rest (a.put o.dst v') w') : wpList P ops Q (o :: rest) a w := by
  refine wpList_plain hgd fun K hK => ?_
  have hsrc : 0 < m → ∃ a, A = some a ∧ ∀ j u, news[j]? = some u → w.cell? (a.add j) = some u := fun h0 => by
    obtain ⟨b, off, e, _, hc⟩ := hr.2 h0
    exact ⟨_, e, fun j u hu => by rw [Go.WideShapes.add_plain]; exact hc j u hu⟩
  obtain ⟨v', w', hr', h2, h3⟩ := run_append_any (P := P) w base t o.type e i z size bytes ht hi hz hsize hby hzs hsz v n xs hown A m c news hr.1 hsrc h1 h63 hbytes hbase
  have h5 := run_append_block (P := P) w base t o.type e i z size bytes ht hi hz hsize hby v n xs hown A m c news hr.1 hsrc h1 h63 hbytes v' w' hr'
  unfold Oper.wp execOp
  simp only [ho, resolve, invoke, builtin, Sem.run_bind, Sem.run_pure, Result.andThen_ok, List.map_toArray, List.map_cons, List.map_nil, hs, hx, hr']
  refine hK _ _ (h v' w' h2 (below_grown hb h3 hown hB (Nat.le_trans hB hbase)) h3.size (fun b hbl hne => ⟨?_, h3.block b hbl (fun e => hne e.symm)⟩))
  rcases h5 with h5 | h5
  · rw [h5]; exact hne
  · rw [h5]; intro e; injection e with e; omega

/-- The form of a slice of the call's own. -/
theorem own_slice {w : World} {base size n : Nat} {e : TypeId} {v : Value} {xs : List Value} (h : w.ownsRow base e size v n xs) : ∃ A cap, v = .slice A n cap ∧ n ≤ cap ∧ ∀ b off, A = some ⟨b, off, none⟩ → base ≤ b := by
  obtain ⟨_, h2⟩ := h
  rcases h2 with ⟨rfl, rfl⟩ | ⟨g, cap, cur, rfl, hg, _, hc, _⟩
  · exact ⟨none, 0, rfl, Nat.le_refl _, fun b off e => by cases e⟩
  · refine ⟨_, cap, rfl, hc, fun b off e => ?_⟩
    injection e with e
    injection e with e
    omega
end Go.Proofs.Ytmjkopejbdipcaa
namespace Go.Proofs.Ytmjkopejbdipcaa
set_option linter.unusedSimpArgs false
set_option linter.unusedVariables false
open Go.RowKit
theorem run_append_one {P : Program} (w : World) (t ty e : TypeId) (i : TypeInfo) (z : Value) (size bytes : Nat) (ht : P.underlying t = some (.slice e)) (hi : P.info? e = some i) (hz : i.zero = some z)
    (hsize : i.size = size) (hby : i.bytes = bytes) (hzs : z.cells.size = size) (B : Nat) (A : Option Addr) (m : Nat) (xs : List Value) (hr : Rd w B size A m xs) (hA : A = none → m = 0)
    (a : Addr) (c : Nat) (news : List Value) (hl : news.length = size) (hnews : ∀ j u, news[j]? = some u → w.cell? (a.add j) = some u)
    (h63 : m + 1 ≤ maxLen) (hbytes : (m + 1) * bytes ≤ 140737488355328) :
    ∃ cap' w', (Builtin.append_ #[t, t] ty #[.slice A m m, .slice (some a) 1 c]).run P w = .ok (.slice (some ⟨w.heap.size, 0, none⟩) (m + 1) cap') w' ∧ w'.ownsRow w.heap.size e size (.slice (some ⟨w.heap.size, 0, none⟩) (m + 1) cap') (m + 1) (xs ++ news) ∧ Below w.heap.size w w' ∧ w.heap.size < w'.heap.size := by
  subst hsize hby
  have hsmall : m + 1 ≤ 9223372036854775807 := by simp only [maxLen] at h63; omega
  have hown : ∀ (cap : Nat) (zs : Array Value), m + 1 ≤ cap → cap ≤ maxLen → zs.size = (cap - (m + 1)) * i.size → (w.drew.alloc (.cells (xs.toArray ++ news.toArray ++ zs) e)).ownsRow w.heap.size e i.size (.slice (some ⟨w.heap.size, 0, none⟩) (m + 1) cap) (m + 1) (xs ++ news) := by
    intro cap zs h1 h2 h3
    refine ⟨by rw [List.length_append, hr.1, hl, Nat.succ_mul], .inr ⟨w.heap.size, cap, _, rfl, Nat.le_refl _, heap_alloc_new w.drew _, h1, h2, ?_, ?_⟩⟩
    · have : (m + 1) * i.size + (cap - (m + 1)) * i.size = cap * i.size := by rw [← Nat.add_mul, show m + 1 + (cap - (m + 1)) = cap by omega]
      simp only [Array.size_append, List.size_toArray, hr.1, hl, h3]
      rw [Nat.succ_mul] at this
      omega
    · simp only [Array.toList_append]
      rw [List.take_append_of_le_length (by simp [hr.1, hl, Nat.succ_mul]), List.take_of_length_le (by simp [hr.1, hl, Nat.succ_mul])]
  cases A with
  | none =>
    obtain rfl : m = 0 := hA rfl
    obtain rfl : xs = [] := List.eq_nil_of_length_eq_zero (by simpa using hr.1)
    have hrun := run_append_nil (P := P) w t ty e i z ht hi hz a 1 c news (by omega) hnews (by omega) (by omega) (by omega)
    refine ⟨_, _, hrun, ?_, ((Below.refl _ _).drew).alloc (Nat.le_refl _) _, by simp⟩
    have h := hown (grownCap w 1 0 e) (Builtin.zeroCells z.cells (grownCap w 1 0 e - 1)) (grownCap_ge w 1 0 e) (grownCap_le_maxLen w 1 0 e (by simp only [maxLen]; omega)) (by rw [size_zeroCells, hzs])
    simpa using h
  | some b =>
    have holds : ∀ j u, xs[j]? = some u → w.cell? (b.add j) = some u := by
      intro j u hu
      have hm : 0 < m := by
        rcases Nat.eq_zero_or_pos m with h0 | h0
        · subst h0
          obtain rfl : xs = [] := List.eq_nil_of_length_eq_zero (by simpa using hr.1)
          simp at hu
        · exact h0
      obtain ⟨b', off, e', _, hc⟩ := hr.2 hm
      injection e' with e'
      subst e'
      rw [Go.WideShapes.add_plain]
      exact hc j u hu
    have hrun := run_append_grow (P := P) w t ty e i z ht hi hz b m m xs hr.1 holds a 1 c news (by omega) hnews (by omega) (by omega) (growslice_fits (by omega) hbytes)
    refine ⟨_, _, hrun, hown _ _ (grownCap_ge w (m + 1) m e) (grownCap_le_maxLen w (m + 1) m e h63) (by rw [size_zeroCells, hzs]), ((Below.refl _ _).drew).alloc (Nat.le_refl _) _, by simp⟩
theorem step_append_one {P : Program} {ops : Array Oper} {o : Oper} {a : Act} {w : World} {K : Act → World → Prop} {Q : Exit → Act → World → Prop} {E : Prop} (hgd : o.guard = none) (s x : Operand) (t : TypeId)
    (ho : o.op = .call { callee := .builtin .append, args := #[s, x], argTypes := #[t, t] })
    (e : TypeId) (i : TypeInfo) (z : Value) (size bytes : Nat) (ht : P.underlying t = some (.slice e)) (hi : P.info? e = some i) (hz : i.zero = some z)
    (hsize : i.size = size) (hby : i.bytes = bytes) (hzs : z.cells.size = size) (B : Nat) (A : Option Addr) (m : Nat) (xs : List Value) (hs : a.eval s = .slice A m m) (hr : Rd w B size A m xs) (hA : A = none → m = 0)
    (ad : Addr) (c : Nat) (news : List Value) (hx : a.eval x = .slice (some ad) 1 c) (hl : news.length = size) (hnews : ∀ j u, news[j]? = some u → w.cell? (ad.add j) = some u)
    (h63 : m + 1 ≤ maxLen) (hbytes : (m + 1) * bytes ≤ 140737488355328)
    (h : ∀ cap' w', Hid (w'.ownsRow w.heap.size e size (.slice (some ⟨w.heap.size, 0, none⟩) (m + 1) cap') (m + 1) (xs ++ news)) → Below w.heap.size w w' → w.heap.size < w'.heap.size → K (a.put o.dst (.slice (some ⟨w.heap.size, 0, none⟩) (m + 1) cap')) w') :
    if Region.wanted o (yielded ops a.tmps) = true then Oper.wp P o a w K Q else E := by
  have hw : Region.wanted o (yielded ops a.tmps) = true := by simp [Region.wanted, hgd]
  rw [if_pos hw]
  obtain ⟨cap', w', hrun, h1, h2, h3⟩ := run_append_one (P := P) w t o.type e i z size bytes ht hi hz hsize hby hzs B A m xs hr hA ad c news hl hnews h63 hbytes
  unfold Oper.wp
  simp [execOp, ho, resolve, invoke, builtin, hs, hx, hrun, Result.andThen]
  exact h cap' w' h1 h2 h3
/-- The same in a list of steps. -/
theorem wp_append_one {P : Program} {o : Oper} {a : Act} {w : World} {K : Act → World → Prop} {Q : Exit → Act → World → Prop} (s x : Operand) (t : TypeId)
    (ho : o.op = .call { callee := .builtin .append, args := #[s, x], argTypes := #[t, t] })
    (e : TypeId) (i : TypeInfo) (z : Value) (size bytes : Nat) (ht : P.underlying t = some (.slice e)) (hi : P.info? e = some i) (hz : i.zero = some z)
    (hsize : i.size = size) (hby : i.bytes = bytes) (hzs : z.cells.size = size) (B : Nat) (A : Option Addr) (m : Nat) (xs : List Value) (hs : a.eval s = .slice A m m) (hr : Rd w B size A m xs) (hA : A = none → m = 0)
    (ad : Addr) (c : Nat) (news : List Value) (hx : a.eval x = .slice (some ad) 1 c) (hl : news.length = size) (hnews : ∀ j u, news[j]? = some u → w.cell? (ad.add j) = some u)
    (h63 : m + 1 ≤ maxLen) (hbytes : (m + 1) * bytes ≤ 140737488355328)
    (h : ∀ cap' w', Hid (w'.ownsRow w.heap.size e size (.slice (some ⟨w.heap.size, 0, none⟩) (m + 1) cap') (m + 1) (xs ++ news)) → Below w.heap.size w w' → w.heap.size < w'.heap.size → K (a.put o.dst (.slice (some ⟨w.heap.size, 0, none⟩) (m + 1) cap')) w') :
    Oper.wp P o a w K Q := by
  obtain ⟨cap', w', hrun, h1, h2, h3⟩ := run_append_one (P := P) w t o.type e i z size bytes ht hi hz hsize hby hzs B A m xs hr hA ad c news hl hnews h63 hbytes
  unfold Oper.wp
  simp [execOp, ho, resolve, invoke, builtin, hs, hx, hrun, Result.andThen]
  exact h cap' w' h1 h2 h3
end Go.Proofs.Ytmjkopejbdipcaa
