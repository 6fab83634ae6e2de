/- Package shrink: one evaluation of the predicate. -/
import Derived.Test.YtmpbaanlagmacaaS4
import Derived.Test.YtmpbaanlagmacaaCp
import Derived.OwnWalk
namespace Go.Proofs.Ytmpbaanlagmacaa
open Go.RowKit

theorem info_pickA : (Try.prog.info? 82).map (fun i => (i.zero, i.size, i.bytes)) = some (some (.agg #[.int .i64 0, .int .i64 0, .int .i64 0]), 3, 24) := by kernel_rfl
theorem look_nil (v : Value) (w : World) : (nilAhead 220 65 v "Bad").run Try.prog w = .ok (some false) w := by kernel_rfl
theorem look_method (v : Value) (w : World) : (method 220 65 v "Bad").run Try.prog w = .ok (44, v) w := by kernel_rfl
theorem look_enter (args : Array Value) (w : World) : (callFunc 44 args).run Try.prog w = .ok (.enter 44 args) w := by rfl
theorem set_size (w : World) (a : Addr) (v : Value) : (w.setCell a v).heap.size = w.heap.size := by simp
theorem pkc_flat (l : List Pk) : (l.flatMap pkc).length = l.length * 3 := by
  induction l with
  | nil => rfl
  | cons a l ih => rw [List.flatMap_cons, List.length_append, ih, List.length_cons, pkc_len]; omega
theorem pkc_ones (l : List Pk) : ∀ v ∈ l.flatMap pkc, v.oneCell' = true := by
  intro v hv
  obtain ⟨q, _, hq⟩ := List.mem_flatMap.1 hv
  exact pkc_one q v hq
theorem splice_all {α : Type} (cur cs : List α) (h : cs.length = cur.length) : splice cur 0 cs = cs := by simp [splice, h]

/-- What is known of a predicate: what its method answers, whatever memory was made since; it may write over its argument's block. -/
def Pred (T : TypeId) (pay : Value) (M : Nat) (p : List Pk → Bool) (B : Nat) (w0 : World) : Prop :=
  (∀ w, (nilAhead 220 T pay "Bad").run Try.prog w = .ok (some false) w) ∧ (∀ w, (method 220 T pay "Bad").run Try.prog w = .ok (M, pay) w) ∧ (∀ args w, (callFunc M args).run Try.prog w = .ok (.enter M args) w) ∧
  ∀ (w : World) (g n : Nat) (t : TypeId) (l : List Pk), Below B w0 w → l.length = n → n ≤ 1000 → B ≤ g → w.heap[g]? = some (.cells (l.flatMap pkc).toArray t (0, 0)) → Calls Try.prog M #[pay, .slice (some ⟨g, 0, none⟩) n n] w fun e w' => e = .returned (.bool (p l)) ∧ Below g w w'
theorem Pred.below {T : TypeId} {pay : Value} {M : Nat} {p : List Pk → Bool} {B : Nat} {w0 w : World} (h : Pred T pay M p B w0) (hb : Below B w0 w) : Pred T pay M p B w :=
  ⟨h.1, h.2.1, h.2.2.1, fun w1 g n t l h1 => h.2.2.2 w1 g n t l (hb.trans h1)⟩

set_option maxHeartbeats 1000000 in
set_option maxRecDepth 100000 in
theorem kbad_any (K : Nat) (asked : Int) (T : TypeId) (pay : Value) (M : Nat) (p : List Pk → Bool) (A2 : Option Addr) (n2 cap2 : Nat) (l : List Pk) (B B2 : Nat) (w : World) (hn2 : l.length = n2) (hb2 : n2 ≤ 1000)
    (ha0 : 0 ≤ asked) (ha1 : asked ≤ 10000000) (hc0 : w.cell? ⟨K, 0, none⟩ = some (.iface T pay)) (hc1 : w.cell? ⟨K, 1, none⟩ = some (.int .i64 asked)) (hf1 : w.frozen? ⟨K, 1, none⟩ = false) (hKz : K < w.heap.size)
    (hB : B ≤ K) (hB2 : B2 ≤ w.heap.size) (hp : Pred T pay M p B w) (hr2 : Rd w B2 3 A2 n2 (l.flatMap pkc)) (hne : ∀ b off, 0 < n2 → A2 = some ⟨b, off, none⟩ → b ≠ K) :
    Calls Try.prog 54 #[.pointer (some ⟨K, 0, none⟩), .slice A2 n2 cap2] w fun e w' => e = .returned (.bool (p l)) ∧ Below w.heap.size (w.setCell ⟨K, 1, none⟩ (.int .i64 (asked + 1))) w' := by
  obtain ⟨i0, hi, iz0, iz1, iz2⟩ := info_parts info_pickA
  have ea : IntKind.i64.wrap (asked + 1) = asked + 1 := IntWalk.i64_in _ (by omega)
  obtain ⟨hl, hm, hent, hcall⟩ := hp
  have Hcall := hide hcall
  clear hcall
  have hl3 := pkc_flat l
  have hsrc : 0 < n2 → ∃ ad, A2 = some ad ∧ ∀ j v, (l.flatMap pkc)[j]? = some v → (w.setCell ⟨K, 1, none⟩ (.int .i64 (asked + 1))).cell? (ad.add j) = some v := by
    intro h0
    obtain ⟨b, off, e, _, hc⟩ := hr2.2 h0
    refine ⟨_, e, fun j v hv => ?_⟩
    have e2 : (⟨b, off, none⟩ : Addr).add j = ⟨b, off + j, none⟩ := by unfold Addr.add; split <;> simp_all
    rw [e2, World.cell?_setCell_other _ _ _ _ (by intro e3; injection e3 with e3 _; exact hne b off h0 e e3.symm)]
    exact hc j v hv
  have Hsrc := hide hsrc
  have hlt : 0 < n2 → ∀ ad, A2 = some ad → ad.block < w.heap.size := by
    intro h0 ad e
    obtain ⟨b, off, e', hb, hc⟩ := hr2.2 h0
    rw [e] at e'
    injection e' with e'
    subst e'
    exact Nat.lt_of_lt_of_le hb hB2
  have Hlt := hide hlt
  clear hsrc hlt hne
  obtain ⟨wa, hwa⟩ : ∃ wa : World, wa = w.setCell ⟨K, 1, none⟩ (.int .i64 (asked + 1)) := ⟨_, rfl⟩
  have hza : wa.heap.size = w.heap.size := by rw [hwa]; exact set_size _ _ _
  have hka : wa.cell? ⟨K, 0, none⟩ = some (.iface T pay) := by
    rw [hwa, World.cell?_setCell_other _ _ _ _ (by intro e; injection e with _ e; cases e)]
    exact hc0
  have hBw : Below B w wa := by rw [hwa]; exact (Below.refl _ _).setCell hB _
  have HBw := hide hBw
  clear hBw
  have Hka := hide hka
  clear hka
  go_enter Try.func54, Try.ntmps54
  go_wp2_with (first
    | (at_make; refine wpList_make_full _ rfl _ _ 63 rfl w.heap.size 82 i0 _ 3 Try.underlying63 hi iz0 iz1 _ _ _ _ n2 rfl rfl rfl rfl (by rw [iz2]; omega) (by unfold maxLen; omega) (by simp) ?_; intro w1 hown hgr; simp only [set_size] at hown; obtain ⟨hrow, -⟩ := row_of_own hown; have hmz : (madeCells (Value.agg #[Value.int IntKind.i64 0, Value.int IntKind.i64 0, Value.int IntKind.i64 0]).cells (n2 * 3)).toList.length = n2 * 3 := hown.1; obtain ⟨cur, hcur⟩ : ∃ cur, cur = (madeCells (Value.agg #[Value.int IntKind.i64 0, Value.int IntKind.i64 0, Value.int IntKind.i64 0]).cells (n2 * 3)).toList := ⟨_, rfl⟩; rw [← hcur] at hrow hmz; rw [← hwa] at hgr; have hB1 : Below w.heap.size wa w1 := below_row (Below.refl _ _) hgr (by omega); rw [← hwa] at Hsrc)
    | ((refine wpList_copy_rows rfl (.tmp 16) (.tmp 17) 63 63 rfl 82 Try.underlying63 i0 hi 3 iz1 _ _ _ _ _ _ rfl rfl w.heap.size 0 cur 82 hrow (l.flatMap pkc) n2 (by simp) (by rw [hl3, hn2]) (fun h0 => ⟨rfl, by obtain ⟨ad, e, hc⟩ := Hsrc.out h0; exact ⟨ad, e, fun j v hv => (hB1.cell (by have := Hlt.out h0 ad e; unfold Addr.add; split <;> exact this)).trans (hc j v hv)⟩⟩) (by rw [hl3, hmz, hn2]; omega) (pkc_ones l) w.heap.size wa hB1 (Nat.le_refl _) ?_; intro w2 hrow2 hB2'; rw [splice_all cur (l.flatMap pkc) (by rw [hl3, hmz, hn2])] at hrow2; have hk2 : w2.cell? ⟨K, 0, none⟩ = some (.iface T pay) := (hB2'.cell (p := ⟨K, 0, none⟩) hKz).trans Hka.out))
    | (with_reducible refine (Hcall.out _ _ _ _ l (HBw.out.trans (hB2'.mono (by omega))) hn2 hb2 (by omega) hrow2.out).mono ?_; rintro e w3 ⟨rfl, hb3⟩))
  go_ret
  exact ⟨rfl, hwa ▸ hB2'.trans hb3⟩

theorem look_pred (k N : Int) (A : Option Addr) (n cap : Nat) (want : List Pk) (B : Nat) (w0 : World) (hk0 : 0 ≤ k) (hk1 : k ≤ 255) (hN0 : 0 ≤ N) (hN1 : N ≤ 255) (hn : want.length = n) (hb : n ≤ 1000) (hr : Rd w0 B 3 A n (want.flatMap pkc)) (hB0 : B ≤ w0.heap.size) :
    Pred 65 (.agg #[.int .u8 k, .slice A n cap, .int .u8 N]) 44 (badP k N want) B w0 := by
  refine ⟨look_nil _, look_method _, look_enter, fun w g n2 t l hbw hl2 hb2 hg hh => ?_⟩
  have hz := hbw.size
  have hlt : g < w.heap.size := (Array.getElem?_eq_some_iff.1 hh).1
  have hr2 := Rd.of_row (n := n2) (cap := n2) (size := 3) hh (by rw [pkc_flat, hl2]; omega) (Nat.le_refl _)
  rw [List.take_of_length_le (by rw [pkc_flat, hl2]; omega)] at hr2
  refine (lookbad_any k N A (some ⟨g, 0, none⟩) n n2 cap n2 want l B w.heap.size w hk0 hk1 hN0 hN1 hn hb hl2 hb2 (by omega) (Nat.le_refl _) (hr.below hbw) hr2).mono ?_
  rintro e w' ⟨rfl, hb'⟩
  exact ⟨rfl, hb'.mono (by omega)⟩
end Go.Proofs.Ytmpbaanlagmacaa
