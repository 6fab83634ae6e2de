/- A store into a block that a memory does not name. -/
import Derived.OwnWalk
import Derived.Test.YtmjkopejbdipcaaG00
import Derived.Test.YtmjkopejbdipcaaG05
import Derived.Test.YtmjkopejbdipcaaG06
import Derived.Test.YtmjkopejbdipcaaG08
import Derived.Test.YtmjkopejbdipcaaG09
namespace Go.Proofs.Ytmjkopejbdipcaa
set_option linter.unusedSimpArgs false
set_option linter.unusedVariables false
open Go.RowKit Go.Maps
/-- A slice of n elements does not lie in block C. -/
def OffC (C n : Nat) (A : Option Addr) : Prop := 0 < n → ∀ b o, A = some ⟨b, o, none⟩ → b ≠ C
theorem OffC.new {w : World} {size C n : Nat} {A : Option Addr} {xs : List Value} (h : Rd w w.heap.size size A n xs) (hC : w.heap.size ≤ C) : OffC C n A := by
  intro hn b o e
  obtain ⟨b', o', e', hb, _⟩ := h.2 hn
  rw [e] at e'
  injection e' with e'
  injection e' with e1 _
  omega
theorem OffC.at {C n g : Nat} (h : g ≠ C) : OffC C n (some ⟨g, 0, none⟩) := by
  intro _ b o e
  injection e with e
  injection e with e1 _
  omega
theorem Rd.set_off {w : World} {B size n C o : Nat} {A : Option Addr} {xs : List Value} (h : Rd w B size A n xs) (hoff : OffC C n A) (x : Value) : Rd (w.setCell ⟨C, o, none⟩ x) B size A n xs := by
  refine ⟨h.1, fun hn => ?_⟩
  obtain ⟨b, off, e, hb, hc⟩ := h.2 hn
  refine ⟨b, off, e, hb, fun j u hu => ?_⟩
  have hne := hoff hn b off e
  rw [World.cell?_setCell_other _ _ _ _ (by intro e2; injection e2 with e2 _; exact hne (by first | exact e2 | exact e2.symm))]
  exact hc j u hu
/-- A memory does not name block C. -/
def MemV.off (C : Nat) (m : MemV) : Prop := OffC C m.hs.length m.pA ∧ OffC C m.vs.length m.vA ∧ ∀ h ∈ m.hs, OffC C h.l.length h.A
theorem MemV.off_new {w : World} {m : MemV} {C : Nat} (h : m.R w) (hC : w.heap.size ≤ C) : m.off C :=
  ⟨OffC.new h.1.2.2.1 hC, OffC.new h.2.2.2.1 hC, fun x hx => OffC.new (h.1.2.2.2 x hx).2.2.1 hC⟩
theorem HistV.R.set_off {L : Nat} {w : World} {h : HistV} {C o : Nat} (hr : h.R L w) (hoff : OffC C h.l.length h.A) (hc : HasC ⟨C, o, none⟩ w) (x : Value) : h.R L (w.setCell ⟨C, o, none⟩ x) := by
  obtain ⟨u, hc⟩ := hc
  obtain ⟨h1, h2, h3, h4⟩ := hr
  refine ⟨h1, h2, ?_, fun m hm => (h4 m hm).setCell hc x⟩
  rw [show (w.setCell ⟨C, o, none⟩ x).heap.size = w.heap.size by simp]
  exact Rd.set_off h3 hoff x
theorem MemV.R.set {w : World} {m : MemV} {C o : Nat} (h : m.R w) (hoff : m.off C) (hc : HasC ⟨C, o, none⟩ w) (x : Value) : m.R (w.setCell ⟨C, o, none⟩ x) := by
  have es : (w.setCell ⟨C, o, none⟩ x).heap.size = w.heap.size := by simp
  refine ⟨⟨h.1.1, h.1.2.1, ?_, fun y hy => (h.1.2.2.2 y hy).set_off (hoff.2.2 y hy) hc x⟩, ⟨h.2.1, h.2.2.1, ?_, fun y hy => ?_⟩⟩
  · rw [es]; exact Rd.set_off h.1.2.2.1 hoff.1 x
  · rw [es]; exact Rd.set_off h.2.2.2.1 hoff.2.1 x
  · obtain ⟨u, hc⟩ := hc
    exact (h.2.2.2.2 y hy).setCell hc x
theorem MemV.R.drew {w : World} {m : MemV} (h : m.R w) : m.R w.drew := h.below (Below.drew (Below.refl _ _))
theorem MemV.off_with {m : MemV} {C g c t : Nat} {a : VwV} (h : m.off C) (hg : g ≠ C) : (m.with (some ⟨g, 0, none⟩) c t a).off C := ⟨h.1, OffC.at hg, h.2.2⟩
theorem MemV.off_put {m : MemV} {C g c k g' c' : Nat} {l : List MsgV} (h : m.off C) (hg : g ≠ C) (hg' : g' ≠ C) : MemV.off C ⟨some ⟨g, 0, none⟩, c, m.hs.set k ⟨some ⟨g', 0, none⟩, c', l⟩, m.vA, m.vc, m.vs⟩ := by
  refine ⟨OffC.at hg, h.2.1, fun x hx => ?_⟩
  rcases List.mem_or_eq_of_mem_set hx with hx | rfl
  · exact h.2.2 x hx
  · exact OffC.at hg'
/-- Five stores into two blocks of the call's own. -/
theorem MemV.R.five {w : World} {m : MemV} {c d : Nat} (h : m.R w) (h1 : m.off c) (h2 : m.off d) {u0 u1 u2 u3 u4 : Value} (c0 : w.cell? ⟨c, 0, none⟩ = some u0) (c1 : w.cell? ⟨c, 1, none⟩ = some u1) (c2 : w.cell? ⟨d, 0, none⟩ = some u2) (c3 : w.cell? ⟨d, 1, none⟩ = some u3) (c4 : w.cell? ⟨d, 2, none⟩ = some u4) (x0 x1 x2 x3 x4 : Value) : m.R (((((w.setCell ⟨c, 0, none⟩ x0).setCell ⟨c, 1, none⟩ x1).setCell ⟨d, 0, none⟩ x2).setCell ⟨d, 1, none⟩ x3).setCell ⟨d, 2, none⟩ x4) :=
  MemV.R.set (MemV.R.set (MemV.R.set (MemV.R.set (MemV.R.set h h1 (.of c0) _) h1 (.set (.of c1) _) _) h2 (.set (.set (.of c2) _) _) _) h2 (.set (.set (.set (.of c3) _) _) _) _) h2 (.set (.set (.set (.set (.of c4) _) _) _) _) _
end Go.Proofs.Ytmjkopejbdipcaa
namespace Go.Proofs.Ytmjkopejbdipcaa
set_option linter.unusedSimpArgs false
set_option linter.unusedVariables false
open Go.RowKit
theorem wp_append_own {P : Program} {o : Oper} {a : Act} {w : World} {K : Act → World → Prop} {Q : Exit → Act → World → Prop} (s x : Operand) (t : TypeId)
    (ho : o.op = .call { callee := .builtin .append, args := #[s, x], argTypes := #[t, t] })
    (base : Nat) (e : TypeId) (i : TypeInfo) (z : Value) (size bytes : Nat) (ht : P.underlying t = some (.slice e)) (hi : P.info? e = some i) (hz : i.zero = some z)
    (hsize : i.size = size) (hby : i.bytes = bytes) (hzs : z.cells.size = size) (hsz : 0 < size)
    (v : Value) (n : Nat) (xs : List Value) (hs : a.eval s = v) (hown : w.ownsRow base e size v n xs)
    (ad : Addr) (c : Nat) (news : List Value) (hx : a.eval x = .slice (some ad) 1 c) (hl : news.length = size) (hnews : ∀ j u, news[j]? = some u → w.cell? (ad.add j) = some u) (h1 : ∀ u ∈ news, u.oneCell' = true)
    (h63 : n + 1 ≤ maxLen) (hbytes : (n + 1) * bytes ≤ 140737488355328) (hbase : base ≤ w.heap.size) (B : Nat) (w0 : World) (hb : Below B w0 w) (hB : B ≤ base)
    (h : ∀ v' w', Hid (w'.ownsRow base e size v' (n + 1) (xs ++ news)) → Below B w0 w' → w.heap.size ≤ w'.heap.size → Hid (∀ b, b < w.heap.size → v.ownBlock ≠ some b → v'.ownBlock ≠ some b ∧ w'.heap[b]? = w.heap[b]?) → K (a.put o.dst v') w') :
    Oper.wp P o a w K Q := by
  have hsrc : 0 < 1 → ∃ a, some ad = some a ∧ ∀ j u, news[j]? = some u → w.cell? (a.add j) = some u := fun _ => ⟨ad, rfl, hnews⟩
  have hl1 : news.length = 1 * size := by omega
  obtain ⟨v', w', hr', h2, h3⟩ := run_append_any (P := P) w base t o.type e i z size bytes ht hi hz hsize hby hzs hsz v n xs hown (some ad) 1 c news hl1 hsrc h1 h63 hbytes hbase
  have h5 := run_append_block (P := P) w base t o.type e i z size bytes ht hi hz hsize hby v n xs hown (some ad) 1 c news hl1 hsrc h1 h63 hbytes v' w' hr'
  unfold Oper.wp execOp
  simp only [ho, resolve, invoke, builtin, Sem.run_bind, Sem.run_pure, Result.andThen_ok, List.map_toArray, List.map_cons, List.map_nil, hs, hx, hr']
  refine h v' w' h2 (below_grown hb h3 hown hB (Nat.le_trans hB hbase)) h3.size (fun b hbl hne => ⟨?_, h3.block b hbl (fun e => hne e.symm)⟩)
  rcases h5 with h5 | h5
  · rw [h5]; exact hne
  · rw [h5]; intro e; injection e with e; omega
/-- What can be read in a block that stays. -/
theorem Rd.stay {w w' : World} {B size n : Nat} {A : Option Addr} {xs : List Value} (h : Rd w B size A n xs) (hs : 0 < n → ∀ b o, A = some ⟨b, o, none⟩ → b < B → w'.heap[b]? = w.heap[b]?) : Rd w' B size A n xs := by
  refine ⟨h.1, fun hn => ?_⟩
  obtain ⟨b, off, e, hb, hc⟩ := h.2 hn
  refine ⟨b, off, e, hb, fun j u hu => ?_⟩
  rw [← hc j u hu]
  simp only [World.cell?, hs hn b off e hb]
end Go.Proofs.Ytmjkopejbdipcaa
namespace Go.Proofs.Ytmjkopejbdipcaa
set_option linter.unusedSimpArgs false
set_option linter.unusedVariables false
open Go.RowKit
theorem made_told {α : Type} (g : α → List Value) (a : α) (s : Nat) (hs : 0 < s) (z : Array Value) (hz : z.toList = g a) (hg : ∀ a, (g a).length = s) (n : Nat) : (madeCells z (n * s)).toList = (List.replicate n a).flatMap g := by
  have hzs : z.size = s := by rw [← Array.length_toList, hz, hg]
  have hlen : ((List.replicate n a).flatMap g).length = n * s := by
    induction n with
    | zero => simp
    | succ n ih => rw [List.replicate_succ, List.flatMap_cons, List.length_append, ih, hg, Nat.succ_mul]; omega
  apply List.ext_getElem?
  intro k
  by_cases hk : k < n * s
  · have h1 : k / s < n := Nat.div_lt_of_lt_mul (by rwa [Nat.mul_comm] at hk)
    have h2 := told_at hg (List.replicate n a) (k / s) a (by simp [List.getElem?_replicate, h1]) (k % s) (Nat.mod_lt _ hs)
    rw [show k / s * s + k % s = k from by rw [Nat.mul_comm]; exact Nat.div_add_mod k s] at h2
    have h3 : k % s < z.size := by rw [hzs]; exact Nat.mod_lt k hs
    rw [h2, ← hz, Array.getElem?_toList, Array.getElem?_toList]
    simp only [madeCells]
    rw [Array.getElem?_map, Array.getElem?_range]
    simp [hk, hzs, h3, Nat.mod_lt k hs]
  · rw [List.getElem?_eq_none (by rw [Array.length_toList, size_madeCells]; omega), List.getElem?_eq_none (by rw [hlen]; omega)]
theorem wp_make_rows {P : Program} {o : Oper} {a : Act} {w : World} {K : Act → World → Prop} {Q : Exit → Act → World → Prop} (l c : Operand) (t : TypeId) (hop : o.op = Op.makeSlice t l c)
    (e : TypeId) (i : TypeInfo) (z : Value) (size bytes : Nat) (h1 : P.underlying t = some (.slice e)) (h2 : P.info? e = some i) (h3 : i.zero = some z) (h4 : i.size = size) (h5 : i.bytes = bytes)
    (kl kc : IntKind) (n : Nat) (hl : a.eval l = .int kl (n : Int)) (hc : a.eval c = .int kc (n : Int)) (b2 : bytes * n ≤ 281474976710656) (b3 : n ≤ maxLen) (xs : List Value) (hx : (madeCells z.cells (n * size)).toList = xs)
    (hK : ∀ w', Hid (w'.ownsRow w.heap.size e size (.slice (some ⟨w.heap.size, 0, none⟩) n n) n xs) → Below w.heap.size w w' → w.heap.size < w'.heap.size → K (a.put o.dst (.slice (some ⟨w.heap.size, 0, none⟩) n n)) w') :
    Oper.wp P o a w K Q := by
  subst h5 hx
  obtain ⟨w', hrun, r1, r2⟩ := run_make_full (P := P) w w.heap.size t e i z size h1 h2 h3 h4 kl kc n b2 b3 (Nat.le_refl _)
  unfold Oper.wp
  simp [execOp, hop, hl, hc, hrun, Result.andThen]
  refine hK w' r1 (Below.grown (Below.refl _ _) r2 (Nat.le_refl _) (fun k hk => by cases hk)) ?_
  obtain ⟨_, h⟩ := r1
  rcases h with ⟨e1, _⟩ | ⟨g', cap', cur, e1, hb, hg, _⟩
  · cases e1
  · injection e1 with e1 _ _
    injection e1 with e1
    injection e1 with e1 _
    subst e1
    exact (Array.getElem?_eq_some_iff.1 hg).1
end Go.Proofs.Ytmjkopejbdipcaa
namespace Go.Proofs.Ytmjkopejbdipcaa
set_option linter.unusedSimpArgs false
set_option linter.unusedVariables false
open Go.RowKit Go.Maps
/-- The message and the history of an initial word. -/
def msg0 (x : W3) : MsgV := ⟨x, 0, ⟨none, fun _ => 0⟩⟩
theorem hist_new2 (x : W3) (w : World) : Calls Try.prog 34 #[(.agg #[.int .i64 (x).v, .int .u32 (x).r, .int .u32 (x).f])] w fun e w' => ∃ g cap, e = .returned (.agg #[.slice (some ⟨g, 0, none⟩) 1 cap]) ∧ 1 ≤ cap ∧ w.heap.size ≤ g ∧ g < w'.heap.size ∧ Rd w' w'.heap.size 5 (some ⟨g, 0, none⟩) 1 (msgc (msg0 x)) ∧ Below w.heap.size w w' := by
  go_enter Try.func34, Try.ntmps34
  go_wp2_with fail
  refine bodyPost_ret (v := .agg #[.slice (some ⟨w.heap.size + 1 + 1, 0, none⟩) 1 1]) (by simp [results, Try.results34, go_sem]) rfl ⟨_, _, rfl, Nat.le_refl _, by omega, by simp, ⟨by simp [msgc], fun _ => ⟨_, 0, rfl, by simp, fun j u hu => ?_⟩⟩, (by repeat' (first | with_reducible exact Below.refl _ _ | with_reducible assumption | with_reducible refine Below.alloc ?_ ?_ _ | with_reducible refine Below.setCell ?_ ?_ _ | with_reducible refine Below.drew ?_ | with_reducible refine below_drewN ?_ _ | with_reducible refine Below.trans ?_ (Below.mono (by with_reducible assumption) ?_) | omega | (simp <;> omega)))⟩
  simp only [msgc, msg0] at hu
  match j, hu with
  | 0, hu => injection hu with hu; subst hu; go_simp
  | 1, hu => injection hu with hu; subst hu; go_simp
  | 2, hu => injection hu with hu; subst hu; go_simp
  | 3, hu => injection hu with hu; subst hu; go_simp
  | 4, hu => injection hu with hu; subst hu; go_simp
/-- A history that New has made: its block is not the row's. -/
def HNew (base : Nat) (v : Value) (w : World) (x : W3) (h : HistV) : Prop := ∃ b cap, h = ⟨some ⟨b, 0, none⟩, cap, [msg0 x]⟩ ∧ 1 ≤ cap ∧ base ≤ b ∧ b < w.heap.size ∧ v.ownBlock ≠ some b ∧ Rd w w.heap.size 5 (some ⟨b, 0, none⟩) 1 (msgc (msg0 x))
section
variable {base : Nat} {v v' : Value} {w w' : World} {x : W3} {h : HistV}
theorem HNew.R (hh : HNew base v w x h) (L : Nat) : h.R L w := by
  obtain ⟨b, cap, rfl, hc, _, _, _, hr⟩ := hh
  refine ⟨hc, (fun e => by cases e), ?_, fun m hm => ?_⟩
  · show Rd w w.heap.size 5 (some ⟨b, 0, none⟩) 1 ([msg0 x].flatMap msgc)
    rw [List.flatMap_cons, List.flatMap_nil, List.append_nil]
    exact hr
  · obtain rfl := List.mem_singleton.1 hm
    exact VwV.R.nil L _
theorem HNew.l (hh : HNew base v w x h) : h.l = [msg0 x] := by
  obtain ⟨b, cap, rfl, _⟩ := hh
  rfl
theorem HNew.off (hh : HNew base v w x h) {C : Nat} (hC : C < base) : OffC C h.l.length h.A := by
  obtain ⟨b, cap, rfl, _, hb, _⟩ := hh
  exact OffC.at (by omega)
theorem HNew.below (hh : HNew base v w x h) (hb : Below w.heap.size w w') : HNew base v w' x h := by
  obtain ⟨b, cap, e, hc, h1, h2, h3, hr⟩ := hh
  exact ⟨b, cap, e, hc, h1, Nat.lt_of_lt_of_le h2 hb.size, h3, (hr.below hb).more hb.size⟩
theorem HNew.app (hh : HNew base v w x h) (hs : w.heap.size ≤ w'.heap.size) (hst : ∀ b, b < w.heap.size → v.ownBlock ≠ some b → v'.ownBlock ≠ some b ∧ w'.heap[b]? = w.heap[b]?) : HNew base v' w' x h := by
  obtain ⟨b, cap, e, hc, h1, h2, h3, hr⟩ := hh
  refine ⟨b, cap, e, hc, h1, Nat.lt_of_lt_of_le h2 hs, (hst b h2 h3).1, (Rd.stay hr (fun _ b' o e2 hb' => ?_)).more hs⟩
  injection e2 with e2
  injection e2 with e2 _
  subst e2
  exact (hst b h2 h3).2
theorem HNew.set {C o : Nat} (hh : HNew base v w x h) (hC : C < base) (u : Value) : HNew base v (w.setCell ⟨C, o, none⟩ u) x h := by
  obtain ⟨b, cap, e, hc, h1, h2, h3, hr⟩ := hh
  refine ⟨b, cap, e, hc, h1, by simpa using h2, h3, ?_⟩
  rw [show (w.setCell ⟨C, o, none⟩ u).heap.size = w.heap.size by simp]
  exact Rd.set_off hr (OffC.at (by omega)) u
end
/-- The loop's state: the row of the histories. -/
def HRow (base : Nat) (v : Value) (w : World) (xs : List W3) (hs : List HistV) : Prop := hs.length = xs.length ∧ ∀ (j : Nat) (x : W3) (h : HistV), xs[j]? = some x → hs[j]? = some h → HNew base v w x h
theorem HRow.map {base : Nat} {v v' : Value} {w w' : World} {xs : List W3} {hs : List HistV} (h : HRow base v w xs hs) (f : ∀ x y, HNew base v w x y → HNew base v' w' x y) : HRow base v' w' xs hs := ⟨h.1, fun j x y hx hy => f _ _ (h.2 j x y hx hy)⟩
theorem HRow.snoc {base : Nat} {v : Value} {w : World} {xs : List W3} {hs : List HistV} {x : W3} {y : HistV} (h : HRow base v w xs hs) (hn : HNew base v w x y) : HRow base v w (xs ++ [x]) (hs ++ [y]) := by
  refine ⟨by simp [h.1], fun j a b ha hb => ?_⟩
  by_cases hj : j < xs.length
  · rw [List.getElem?_append_left hj] at ha
    rw [List.getElem?_append_left (by rw [h.1]; exact hj)] at hb
    exact h.2 j a b ha hb
  · rw [List.getElem?_append_right (by omega)] at ha
    rw [List.getElem?_append_right (by rw [h.1]; omega), h.1] at hb
    by_cases h0 : j - xs.length = 0
    · rw [h0] at ha hb
      simp at ha hb
      subst ha hb
      exact hn
    · rw [List.getElem?_eq_none (by simp; omega)] at ha
      cases ha
end Go.Proofs.Ytmjkopejbdipcaa
namespace Go.Proofs.Ytmjkopejbdipcaa
set_option linter.unusedSimpArgs false
set_option linter.unusedVariables false
open Go.RowKit
theorem info_cW : (Try.prog.info? 44).map (fun i => (i.zero, i.size, i.bytes)) = some (some (.agg #[.int .i64 0, .int .u32 0, .int .u32 0]), 3, 16) := by kernel_rfl
set_option maxRecDepth 100000 in
theorem clone_W (A : Option Addr) (n cap : Nat) (xs : List Value) (w : World) (hr : Rd w w.heap.size 3 A n xs) (hA : A = none → n = 0) (h1 : ∀ u ∈ xs, u.oneCell' = true) (hn : n ≤ 1000000) :
    Calls Try.prog 35 #[.slice A n cap] w fun e w' => ∃ A' cap', e = .returned (.slice A' n cap') ∧ w'.ownsRow w.heap.size 44 3 (.slice A' n cap') n xs ∧ Below w.heap.size w w' := by
  obtain ⟨i0, hi0, jz0, jz1, jz2⟩ := info_parts info_cW
  have hi := hide hi0
  have iz0 := hide jz0
  have iz1 := hide jz1
  have iz2 := hide jz2
  clear hi0 jz0 jz1 jz2
  have Hr := hide hr
  have H1 := hide h1
  cases A with
  | none =>
    obtain rfl : n = 0 := hA rfl
    have hx : xs = [] := List.eq_nil_of_length_eq_zero (by simpa using hr.1)
    subst hx
    have heq : ∀ W : World, (binOp .eql 31 (.slice none 0 cap) (.slice none 0 0)).run Try.prog W = .ok (.bool true) W := fun W => by kernel_rfl
    clear hr hA
    go_enter Try.func35, Try.ntmps35
    go_wp2_with fail
    go_ret
    exact ⟨none, 0, rfl, World.ownsRow_nil _ _ _ _, (by repeat' (first | with_reducible exact Below.refl _ _ | with_reducible assumption | with_reducible refine Below.alloc ?_ ?_ _ | with_reducible refine Below.setCell ?_ ?_ _ | with_reducible refine Below.drew ?_ | with_reducible refine below_drewN ?_ _ | with_reducible refine Below.trans ?_ (Below.mono (by with_reducible assumption) ?_) | omega | (simp <;> omega)))⟩
  | some a =>
    have heq : ∀ W : World, (binOp .eql 31 (.slice (some a) n cap) (.slice none 0 0)).run Try.prog W = .ok (.bool false) W := fun W => by kernel_rfl
    clear hr hA h1
    go_enter Try.func35, Try.ntmps35
    go_wp2_with (first
      | (at_builtin; refine wpList_append_rd rfl _ _ 31 rfl w.heap.size 44 i0 _ 3 16 Try.underlying31 hi.out iz0.out iz1.out iz2.out rfl (by decide) (.slice (some ⟨w.heap.size, 0, none⟩) 0 0) 0 [] rfl (World.ownsRow_made w #[] 0 (Nat.le_refl _) (Nat.zero_le _) rfl) (some a) n cap xs rfl w.heap.size (Hr.out.below (by repeat' (first | with_reducible exact Below.refl _ _ | with_reducible assumption | with_reducible refine Below.alloc ?_ ?_ _ | with_reducible refine Below.setCell ?_ ?_ _ | with_reducible refine Below.drew ?_ | with_reducible refine below_drewN ?_ _ | with_reducible refine Below.trans ?_ (Below.mono (by with_reducible assumption) ?_) | omega | (simp <;> omega)))) H1.out (by unfold maxLen; omega) (by omega) (by simp) w.heap.size w (by repeat' (first | with_reducible exact Below.refl _ _ | with_reducible assumption | with_reducible refine Below.alloc ?_ ?_ _ | with_reducible refine Below.setCell ?_ ?_ _ | with_reducible refine Below.drew ?_ | with_reducible refine below_drewN ?_ _ | with_reducible refine Below.trans ?_ (Below.mono (by with_reducible assumption) ?_) | omega | (simp <;> omega))) (Nat.le_refl _) ?_; intro v' w6 hown6 hb6 hsz6))
    rw [Nat.zero_add, List.nil_append] at hown6
    obtain ⟨A', cap', rfl, hcp, hbl⟩ := own_slice hown6
    go_wp2_with fail
    go_ret
    exact ⟨A', cap', rfl, hown6, (by repeat' (first | with_reducible exact Below.refl _ _ | with_reducible assumption | with_reducible refine Below.alloc ?_ ?_ _ | with_reducible refine Below.setCell ?_ ?_ _ | with_reducible refine Below.drew ?_ | with_reducible refine below_drewN ?_ _ | with_reducible refine Below.trans ?_ (Below.mono (by with_reducible assumption) ?_) | omega | (simp <;> omega)))⟩
theorem info_cI : (Try.prog.info? 3).map (fun i => (i.zero, i.size, i.bytes)) = some (some (.int .i64 0), 1, 8) := by kernel_rfl
set_option maxRecDepth 100000 in
theorem clone_I (A : Option Addr) (n cap : Nat) (xs : List Value) (w : World) (hr : Rd w w.heap.size 1 A n xs) (hA : A = none → n = 0) (h1 : ∀ u ∈ xs, u.oneCell' = true) (hn : n ≤ 1000000) :
    Calls Try.prog 40 #[.slice A n cap] w fun e w' => ∃ A' cap', e = .returned (.slice A' n cap') ∧ w'.ownsRow w.heap.size 3 1 (.slice A' n cap') n xs ∧ Below w.heap.size w w' := by
  obtain ⟨i0, hi0, jz0, jz1, jz2⟩ := info_parts info_cI
  have hi := hide hi0
  have iz0 := hide jz0
  have iz1 := hide jz1
  have iz2 := hide jz2
  clear hi0 jz0 jz1 jz2
  have Hr := hide hr
  have H1 := hide h1
  cases A with
  | none =>
    obtain rfl : n = 0 := hA rfl
    have hx : xs = [] := List.eq_nil_of_length_eq_zero (by simpa using hr.1)
    subst hx
    have heq : ∀ W : World, (binOp .eql 36 (.slice none 0 cap) (.slice none 0 0)).run Try.prog W = .ok (.bool true) W := fun W => by kernel_rfl
    clear hr hA
    go_enter Try.func40, Try.ntmps40
    go_wp2_with fail
    go_ret
    exact ⟨none, 0, rfl, World.ownsRow_nil _ _ _ _, (by repeat' (first | with_reducible exact Below.refl _ _ | with_reducible assumption | with_reducible refine Below.alloc ?_ ?_ _ | with_reducible refine Below.setCell ?_ ?_ _ | with_reducible refine Below.drew ?_ | with_reducible refine below_drewN ?_ _ | with_reducible refine Below.trans ?_ (Below.mono (by with_reducible assumption) ?_) | omega | (simp <;> omega)))⟩
  | some a =>
    have heq : ∀ W : World, (binOp .eql 36 (.slice (some a) n cap) (.slice none 0 0)).run Try.prog W = .ok (.bool false) W := fun W => by kernel_rfl
    clear hr hA h1
    go_enter Try.func40, Try.ntmps40
    go_wp2_with (first
      | (at_builtin; refine wpList_append_rd rfl _ _ 36 rfl w.heap.size 3 i0 _ 1 8 Try.underlying36 hi.out iz0.out iz1.out iz2.out rfl (by decide) (.slice (some ⟨w.heap.size, 0, none⟩) 0 0) 0 [] rfl (World.ownsRow_made w #[] 0 (Nat.le_refl _) (Nat.zero_le _) rfl) (some a) n cap xs rfl w.heap.size (Hr.out.below (by repeat' (first | with_reducible exact Below.refl _ _ | with_reducible assumption | with_reducible refine Below.alloc ?_ ?_ _ | with_reducible refine Below.setCell ?_ ?_ _ | with_reducible refine Below.drew ?_ | with_reducible refine below_drewN ?_ _ | with_reducible refine Below.trans ?_ (Below.mono (by with_reducible assumption) ?_) | omega | (simp <;> omega)))) H1.out (by unfold maxLen; omega) (by omega) (by simp) w.heap.size w (by repeat' (first | with_reducible exact Below.refl _ _ | with_reducible assumption | with_reducible refine Below.alloc ?_ ?_ _ | with_reducible refine Below.setCell ?_ ?_ _ | with_reducible refine Below.drew ?_ | with_reducible refine below_drewN ?_ _ | with_reducible refine Below.trans ?_ (Below.mono (by with_reducible assumption) ?_) | omega | (simp <;> omega))) (Nat.le_refl _) ?_; intro v' w6 hown6 hb6 hsz6))
    rw [Nat.zero_add, List.nil_append] at hown6
    obtain ⟨A', cap', rfl, hcp, hbl⟩ := own_slice hown6
    go_wp2_with fail
    go_ret
    exact ⟨A', cap', rfl, hown6, (by repeat' (first | with_reducible exact Below.refl _ _ | with_reducible assumption | with_reducible refine Below.alloc ?_ ?_ _ | with_reducible refine Below.setCell ?_ ?_ _ | with_reducible refine Below.drew ?_ | with_reducible refine below_drewN ?_ _ | with_reducible refine Below.trans ?_ (Below.mono (by with_reducible assumption) ?_) | omega | (simp <;> omega)))⟩
theorem info_cL : (Try.prog.info? 153).map (fun i => (i.zero, i.size, i.bytes)) = some (some (.agg #[.slice none 0 0, .int .i64 0]), 2, 32) := by kernel_rfl
set_option maxRecDepth 100000 in
theorem clone_L (A : Option Addr) (n cap : Nat) (xs : List Value) (w : World) (hr : Rd w w.heap.size 2 A n xs) (hA : A = none → n = 0) (h1 : ∀ u ∈ xs, u.oneCell' = true) (hn : n ≤ 1000000) :
    Calls Try.prog 70 #[.slice A n cap] w fun e w' => ∃ A' cap', e = .returned (.slice A' n cap') ∧ w'.ownsRow w.heap.size 153 2 (.slice A' n cap') n xs ∧ Below w.heap.size w w' := by
  obtain ⟨i0, hi0, jz0, jz1, jz2⟩ := info_parts info_cL
  have hi := hide hi0
  have iz0 := hide jz0
  have iz1 := hide jz1
  have iz2 := hide jz2
  clear hi0 jz0 jz1 jz2
  have Hr := hide hr
  have H1 := hide h1
  cases A with
  | none =>
    obtain rfl : n = 0 := hA rfl
    have hx : xs = [] := List.eq_nil_of_length_eq_zero (by simpa using hr.1)
    subst hx
    have heq : ∀ W : World, (binOp .eql 32 (.slice none 0 cap) (.slice none 0 0)).run Try.prog W = .ok (.bool true) W := fun W => by kernel_rfl
    clear hr hA
    go_enter Try.func70, Try.ntmps70
    go_wp2_with fail
    go_ret
    exact ⟨none, 0, rfl, World.ownsRow_nil _ _ _ _, (by repeat' (first | with_reducible exact Below.refl _ _ | with_reducible assumption | with_reducible refine Below.alloc ?_ ?_ _ | with_reducible refine Below.setCell ?_ ?_ _ | with_reducible refine Below.drew ?_ | with_reducible refine below_drewN ?_ _ | with_reducible refine Below.trans ?_ (Below.mono (by with_reducible assumption) ?_) | omega | (simp <;> omega)))⟩
  | some a =>
    have heq : ∀ W : World, (binOp .eql 32 (.slice (some a) n cap) (.slice none 0 0)).run Try.prog W = .ok (.bool false) W := fun W => by kernel_rfl
    clear hr hA h1
    go_enter Try.func70, Try.ntmps70
    go_wp2_with (first
      | (at_builtin; refine wpList_append_rd rfl _ _ 32 rfl w.heap.size 153 i0 _ 2 32 Try.underlying32 hi.out iz0.out iz1.out iz2.out rfl (by decide) (.slice (some ⟨w.heap.size, 0, none⟩) 0 0) 0 [] rfl (World.ownsRow_made w #[] 0 (Nat.le_refl _) (Nat.zero_le _) rfl) (some a) n cap xs rfl w.heap.size (Hr.out.below (by repeat' (first | with_reducible exact Below.refl _ _ | with_reducible assumption | with_reducible refine Below.alloc ?_ ?_ _ | with_reducible refine Below.setCell ?_ ?_ _ | with_reducible refine Below.drew ?_ | with_reducible refine below_drewN ?_ _ | with_reducible refine Below.trans ?_ (Below.mono (by with_reducible assumption) ?_) | omega | (simp <;> omega)))) H1.out (by unfold maxLen; omega) (by omega) (by simp) w.heap.size w (by repeat' (first | with_reducible exact Below.refl _ _ | with_reducible assumption | with_reducible refine Below.alloc ?_ ?_ _ | with_reducible refine Below.setCell ?_ ?_ _ | with_reducible refine Below.drew ?_ | with_reducible refine below_drewN ?_ _ | with_reducible refine Below.trans ?_ (Below.mono (by with_reducible assumption) ?_) | omega | (simp <;> omega))) (Nat.le_refl _) ?_; intro v' w6 hown6 hb6 hsz6))
    rw [Nat.zero_add, List.nil_append] at hown6
    obtain ⟨A', cap', rfl, hcp, hbl⟩ := own_slice hown6
    go_wp2_with fail
    go_ret
    exact ⟨A', cap', rfl, hown6, (by repeat' (first | with_reducible exact Below.refl _ _ | with_reducible assumption | with_reducible refine Below.alloc ?_ ?_ _ | with_reducible refine Below.setCell ?_ ?_ _ | with_reducible refine Below.drew ?_ | with_reducible refine below_drewN ?_ _ | with_reducible refine Below.trans ?_ (Below.mono (by with_reducible assumption) ?_) | omega | (simp <;> omega)))⟩
end Go.Proofs.Ytmjkopejbdipcaa
namespace Go.Proofs.Ytmjkopejbdipcaa
set_option linter.unusedSimpArgs false
set_option linter.unusedVariables false
open Go.RowKit Go.Maps
/-- A line's log: its stores, the length that has been persisted. -/
structure LogV where
  A : Option Addr
  cap : Nat
  l : List (Int × W3)
  kept : Int
def storec (p : Int × W3) : List Value := [.int .i64 p.1, .int .i64 p.2.v, .int .u32 p.2.r, .int .u32 p.2.f]
theorem storec_len (p : Int × W3) : (storec p).length = 4 := rfl
def logc (g : LogV) : List Value := [.slice g.A g.l.length g.cap, .int .i64 g.kept]
theorem logc_len (g : LogV) : (logc g).length = 2 := rfl
def LogV.R (w : World) (g : LogV) : Prop := g.l.length ≤ g.cap ∧ (g.A = none → g.l.length = 0) ∧ Rd w w.heap.size 4 g.A g.l.length (g.l.flatMap storec)
/-- The lines: the first words, the logs, the map of what has been asked for. -/
structure LinesV where
  fA : Option Addr
  fc : Nat
  first : List W3
  lA : Option Addr
  lc : Nat
  logs : List LogV
  asks : Option Nat
def LinesV.R (w : World) (m : LinesV) : Prop := (m.first.length ≤ m.fc ∧ (m.fA = none → m.first.length = 0) ∧ Rd w w.heap.size 3 m.fA m.first.length (m.first.flatMap w3c)) ∧ (m.logs.length ≤ m.lc ∧ (m.lA = none → m.logs.length = 0) ∧ Rd w w.heap.size 2 m.lA m.logs.length (m.logs.flatMap logc) ∧ ∀ g ∈ m.logs, g.R w)
theorem LogV.R.below {w w' : World} {g : LogV} (h : g.R w) (hb : Below w.heap.size w w') : g.R w' := ⟨h.1, h.2.1, (h.2.2.below hb).more hb.size⟩
theorem LinesV.R.below {w w' : World} {m : LinesV} (h : m.R w) (hb : Below w.heap.size w w') : m.R w' :=
  ⟨⟨h.1.1, h.1.2.1, (h.1.2.2.below hb).more hb.size⟩, h.2.1, h.2.2.1, (h.2.2.2.1.below hb).more hb.size, fun g hg => (h.2.2.2.2 g hg).below hb⟩
def LinesV.off (C : Nat) (m : LinesV) : Prop := OffC C m.first.length m.fA ∧ OffC C m.logs.length m.lA ∧ ∀ g ∈ m.logs, OffC C g.l.length g.A
theorem LinesV.off_new {w : World} {m : LinesV} {C : Nat} (h : m.R w) (hC : w.heap.size ≤ C) : m.off C :=
  ⟨OffC.new h.1.2.2 hC, OffC.new h.2.2.2.1 hC, fun x hx => OffC.new (h.2.2.2.2 x hx).2.2 hC⟩
theorem LogV.R.set {w : World} {g : LogV} {C o : Nat} (h : g.R w) (hoff : OffC C g.l.length g.A) (x : Value) : g.R (w.setCell ⟨C, o, none⟩ x) := by
  refine ⟨h.1, h.2.1, ?_⟩
  rw [show (w.setCell ⟨C, o, none⟩ x).heap.size = w.heap.size by simp]
  exact Rd.set_off h.2.2 hoff x
theorem LinesV.R.set {w : World} {m : LinesV} {C o : Nat} (h : m.R w) (hoff : m.off C) (x : Value) : m.R (w.setCell ⟨C, o, none⟩ x) := by
  have es : (w.setCell ⟨C, o, none⟩ x).heap.size = w.heap.size := by simp
  refine ⟨⟨h.1.1, h.1.2.1, ?_⟩, h.2.1, h.2.2.1, ?_, fun y hy => (h.2.2.2.2 y hy).set (hoff.2.2 y hy) x⟩
  · rw [es]; exact Rd.set_off h.1.2.2 hoff.1 x
  · rw [es]; exact Rd.set_off h.2.2.2.1 hoff.2.1 x
/-- A cell of a slice is set. -/
theorem Rd.setAt {w : World} {B size n b off i : Nat} {xs : List Value} (h : Rd w B size (some ⟨b, off, none⟩) n xs) (hi : i < xs.length) (u : Value) : Rd (w.setCell ⟨b, off + i, none⟩ u) B size (some ⟨b, off, none⟩) n (xs.set i u) := by
  refine ⟨by rw [List.length_set]; exact h.1, fun hn => ?_⟩
  obtain ⟨b', off', e, hB, hc⟩ := h.2 hn
  injection e with e
  injection e with e1 e2
  subst e1 e2
  refine ⟨b, off, rfl, hB, fun j v hv => ?_⟩
  rw [List.getElem?_set] at hv
  by_cases hj : i = j
  · subst hj
    rw [if_pos rfl, if_pos hi] at hv
    injection hv with hv
    subst hv
    exact World.cell?_setCell_same _ _ _ (hc i _ (List.getElem?_eq_getElem hi))
  · rw [if_neg hj] at hv
    rw [World.cell?_setCell_other _ _ _ _ (by intro e; injection e with _ e; omega)]
    exact hc j v hv
theorem flatMap_set {α β : Type} {s : Nat} {g : α → List β} (hg : ∀ a, (g a).length = s) : ∀ (l : List α) (j i : Nat) (a a' : α) (v : β), l[j]? = some a → i < s → g a' = (g a).set i v → (l.flatMap g).set (j * s + i) v = (l.set j a').flatMap g
  | [], j, i, a, a', v, h, _, _ => by simp at h
  | b :: l, 0, i, a, a', v, h, hi, he => by
    simp only [List.getElem?_cons_zero, Option.some.injEq] at h
    subst h
    simp only [List.flatMap_cons, Nat.zero_mul, Nat.zero_add, List.set_cons_zero]
    rw [List.set_append_left _ _ (by rw [hg]; exact hi), he]
  | b :: l, j + 1, i, a, a', v, h, hi, he => by
    simp only [List.getElem?_cons_succ] at h
    simp only [List.flatMap_cons, List.set_cons_succ]
    rw [List.set_append_right _ _ (by rw [hg, Nat.succ_mul]; omega), hg, show (j + 1) * s + i - s = j * s + i by rw [Nat.succ_mul]; omega, flatMap_set hg l j i a a' v h hi he]
/-- A row of the call's own holds what it holds. -/
theorem own_cells {w : World} {base size n cap g : Nat} {e : TypeId} {xs : List Value} (h : w.ownsRow base e size (.slice (some ⟨g, 0, none⟩) n cap) n xs) : (∀ i v, xs[i]? = some v → w.cell? ⟨g, i, none⟩ = some v) ∧ (∀ o, w.frozen? ⟨g, o, none⟩ = false) := by
  obtain ⟨hl, h⟩ := h
  rcases h with ⟨e1, _⟩ | ⟨g', cap', cur, e1, hb, hg, _, _, _, ht⟩
  · cases e1
  · injection e1 with e1 _ _
    injection e1 with e1
    injection e1 with e1 _
    subst e1
    refine ⟨fun i v hv => ?_, fun o => by simp [World.frozen?, hg]⟩
    rw [← ht] at hv
    have hi := (List.getElem?_eq_some_iff.1 hv).1
    rw [List.length_take] at hi
    rw [List.getElem?_take_of_lt (by omega)] at hv
    simp only [World.cell?, hg]
    simpa using hv
end Go.Proofs.Ytmjkopejbdipcaa
