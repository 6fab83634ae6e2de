/- Package shrink: one pass over a schedule. -/
import Derived.Test.YtmpbaanlagmacaaS6
import Derived.Test.YtmpbaanlagmacaaSP
namespace Go.Proofs.Ytmpbaanlagmacaa
open Go.RowKit

/-- A slice that holds the schedule l; it does not lie in block K. -/
def Sched (K : Nat) (w : World) (A : Option Addr) (n cap : Nat) (l : List Pk) : Prop :=
  l.length = n ∧ n ≤ cap ∧ Rd w w.heap.size 3 A n (l.flatMap pkc) ∧ (∀ b off, 0 < n → A = some ⟨b, off, none⟩ → b ≠ K)
/-- The cells of a look. -/
def LkC (K : Nat) (T : TypeId) (pay : Value) (asked : Int) (w : World) : Prop :=
  w.cell? ⟨K, 0, none⟩ = some (.iface T pay) ∧ w.cell? ⟨K, 1, none⟩ = some (.int .i64 asked) ∧ w.frozen? ⟨K, 1, none⟩ = false ∧ K < w.heap.size

theorem Sched.below {K n cap : Nat} {w w' : World} {A : Option Addr} {l : List Pk} (h : Sched K w A n cap l) (hb : Below w.heap.size w w') : Sched K w' A n cap l :=
  ⟨h.1, h.2.1, (h.2.2.1.below hb).more hb.size, h.2.2.2⟩
theorem Sched.set {K n cap o : Nat} {w : World} {A : Option Addr} {l : List Pk} (h : Sched K w A n cap l) (x : Value) : Sched K (w.setCell ⟨K, o, none⟩ x) A n cap l := by
  obtain ⟨h1, h2, ⟨h3, h4⟩, h5⟩ := h
  refine ⟨h1, h2, ⟨h3, fun h0 => ?_⟩, h5⟩
  obtain ⟨b, off, e, hb, hc⟩ := h4 h0
  refine ⟨b, off, e, by rw [set_size]; exact hb, fun j u hu => ?_⟩
  rw [World.cell?_setCell_other _ _ _ _ (by intro e3; injection e3 with e3 _; exact h5 b off h0 e e3.symm)]
  exact hc j u hu
theorem LkC.below {K : Nat} {T : TypeId} {pay : Value} {asked : Int} {w w' : World} (h : LkC K T pay asked w) (hb : Below w.heap.size w w') : LkC K T pay asked w' := by
  obtain ⟨h0, h1, h2, h3⟩ := h
  obtain ⟨hc, hf⟩ := bcell hb
  exact ⟨(hc _ _ h3).trans h0, (hc _ _ h3).trans h1, (hf _ _ h3).trans h2, Nat.lt_of_lt_of_le h3 hb.size⟩

theorem without_s (K n cap i : Nat) (A : Option Addr) (l : List Pk) (w : World) (h : Sched K w A n cap l) (hn : n ≤ 1000) (hi : i < n) (hK : K < w.heap.size) :
    Calls Try.prog 55 #[.slice A n cap, .int .i64 i] w fun e w' => ∃ A' n' cap', e = .returned (.slice A' n' cap') ∧ Sched K w' A' n' cap' (l.eraseIdx i) ∧ Below w.heap.size w w' := by
  obtain ⟨h1, h2, h3, h4⟩ := h
  obtain ⟨b, off, rfl, hb, hc⟩ := h3.at_ hi
  obtain ⟨m, rfl⟩ : ∃ m, n = m + 1 := ⟨n - 1, by omega⟩
  refine (without_any b off m cap i l w.heap.size w h1 (by omega) h2 (by omega) (Nat.le_refl _) h3).mono ?_
  rintro e w' ⟨rfl, hr, hb'⟩
  have he : (l.eraseIdx i).length = m := by rw [List.length_eraseIdx_of_lt (by omega)]; omega
  have hrd := Rd.of_row (n := m) (cap := m) (size := 3) hr (by rw [pkc_flat, he]; omega) (Nat.le_refl _)
  rw [List.take_of_length_le (by rw [pkc_flat, he]; omega)] at hrd
  refine ⟨_, _, _, rfl, ⟨he, Nat.le_refl _, hrd, fun b o _ e => ?_⟩, hb'⟩
  injection e with e
  injection e with e
  omega

theorem kbad_s (K : Nat) (asked : Int) (T : TypeId) (pay : Value) (M : Nat) (p : List Pk → Bool) (A : Option Addr) (n cap : Nat) (l : List Pk) (B : Nat) (w : World) (h : Sched K w A n cap l) (hn : n ≤ 1000) (hc : LkC K T pay asked w) (hB : B ≤ K) (hp : Pred T pay M p B w) (ha0 : 0 ≤ asked) (ha1 : asked ≤ 10000000) :
    Calls Try.prog 54 #[.pointer (some ⟨K, 0, none⟩), .slice A n cap] w fun e w' => e = .returned (.bool (p l)) ∧ LkC K T pay (asked + 1) w' ∧ (∀ A n cap l, Sched K w A n cap l → Sched K w' A n cap l) ∧ Below K w w' := by
  obtain ⟨c0, c1, c2, c3⟩ := hc
  refine (kbad_any K asked T pay M p A n cap l B w.heap.size w h.1 hn ha0 ha1 c0 c1 c2 c3 hB (Nat.le_refl _) hp h.2.2.1 h.2.2.2).mono ?_
  rintro e w' ⟨rfl, hb⟩
  have hb' : Below (w.setCell ⟨K, 1, none⟩ (.int .i64 (asked + 1))).heap.size (w.setCell ⟨K, 1, none⟩ (.int .i64 (asked + 1))) w' := by rw [set_size]; exact hb
  refine ⟨rfl, LkC.below ⟨?_, World.cell?_setCell_same _ _ _ c1, by simpa [go_sem] using c2, by rw [set_size]; exact c3⟩ hb', fun A n cap l h => (h.set _).below hb', ((Below.refl K w).setCell (Nat.le_refl K) _).trans (hb.mono (Nat.le_of_lt c3))⟩
  rw [World.cell?_setCell_other _ _ _ _ (by intro e; injection e with _ e; cases e)]
  exact c0

def lenOf' : Value → Nat
  | .slice _ n _ => n
  | _ => 0

set_option maxHeartbeats 1000000 in
set_option maxRecDepth 100000 in
theorem pass_any (K : Nat) (asked : Int) (T : TypeId) (pay : Value) (M : Nat) (p : List Pk → Bool) (A : Option Addr) (n cap : Nat) (l : List Pk) (B : Nat) (w : World) (h : Sched K w A n cap l) (hn : n ≤ 1000) (hc : LkC K T pay asked w) (hB : B ≤ K) (hp : Pred T pay M p B w) (ha0 : 0 ≤ asked) (ha1 : asked ≤ 5000000) :
    Calls Try.prog 58 #[.pointer (some ⟨K, 0, none⟩), .slice A n cap] w fun e w' => ∃ A' n' cap', e = .returned (.tuple #[.slice A' n' cap', .bool (decide ((passP p l.length l 0).length < l.length))]) ∧ Sched K w' A' n' cap' (passP p l.length l 0) ∧ LkC K T pay (asked + l.length) w' ∧ Below K w w' := by
  have hl := h.1
  have H := hide h
  have Hc := hide hc
  have Hp := hide hp
  clear h hc hp
  go_enter Try.func58, Try.ntmps58
  go_wp2
  go_loopw [1, 7] (fun v a wr => ∃ (A' : Option Addr) (n' cap' i : Nat) (x : List Pk) (ask : Int), v = .slice A' n' cap' ∧ a = .int .i64 i ∧ Sched K wr A' n' cap' x ∧ i ≤ n' ∧ n' ≤ n ∧ passP p (n' - i) x i = passP p l.length l 0 ∧ ask + (n' - i : Nat) = asked + n ∧ asked ≤ ask ∧ LkC K T pay ask wr ∧ Below K w wr)
    (fun v a _ => lenOf' v - (intOf a).toNat)
  case atStart =>
    exact ⟨A, n, cap, 0, l, asked, rfl, rfl, H.out, by omega, by omega, by rw [hl]; rfl, by omega, by omega, Hc.out, Below.refl _ _⟩
  case round =>
    obtain ⟨A', n', cap', i, x, ask, rfl, rfl, hs, hi, hnn, hpp, hask, hge, hlc, hbw⟩ := hrel
    have hx := hs.1
    have hKz := hlc.2.2.2
    have Hs := hide hs
    have Hlc := hide hlc
    have Hpp := hide hpp
    clear hs hlc hpp
    by_cases hlt : i < n'
    · go_wp2_with (first
        | (go_at_call 55; refine (without_s K n' cap' i A' x _ Hs.out (by omega) hlt hKz).mono ?_; rintro e w1 ⟨A1, n1, cap1, rfl, hs1, hb1⟩)
        | (go_at_call 54; refine (kbad_s K ask T pay M p A1 n1 cap1 (x.eraseIdx i) B _ hs1 (by rw [← hs1.1, List.length_eraseIdx_of_lt (by omega)]; omega) (Hlc.out.below hb1) hB (Hp.out.below ((hbw.trans (hb1.mono (Nat.le_of_lt hKz))).mono hB)) (by omega) (by omega)).mono ?_; rintro e w2 ⟨rfl, hlc2, hs2, hb2⟩))
      · have hpx : p (x.eraseIdx i) = true := by assumption
        have hl1 : n1 + 1 = n' := by rw [← hs1.1, List.length_eraseIdx_of_lt (by omega)]; omega
        refine ⟨⟨A1, n1, cap1, i, x.eraseIdx i, ask + 1, rfl, rfl, hs2 _ _ _ _ hs1, by omega, by omega, ?_, by omega, by omega, hlc2, (hbw.trans (hb1.mono (Nat.le_of_lt hKz))).trans hb2⟩, ?_⟩
        · rw [← Hpp.out, show n' - i = (n1 - i) + 1 by omega]
          simp [passP, hpx]
        · simp [lenOf', intOf]; omega
      · have hpx : p (x.eraseIdx i) = false := by assumption
        refine ⟨⟨A', n', cap', i + 1, x, ask + 1, rfl, by go_num, hs2 _ _ _ _ (Hs.out.below hb1), by omega, by omega, ?_, by omega, by omega, hlc2, (hbw.trans (hb1.mono (Nat.le_of_lt hKz))).trans hb2⟩, ?_⟩
        · rw [← Hpp.out, show n' - i = (n' - (i + 1)) + 1 by omega]
          simp [passP, hpx]
        · simp [lenOf', intOf]; omega
    · obtain rfl : i = n' := by omega
      have hpe : passP p l.length l 0 = x := by rw [← Hpp.out, Nat.sub_self]; rfl
      have hae : ask = asked + n := by omega
      go_wp2
      go_ret2
      refine ⟨A', i, cap', by rw [hpe, hx, hl]; rfl, hpe ▸ Hs.out, ?_, hbw⟩
      have h := Hlc.out
      rw [hae] at h
      rw [hl]
      exact h
end Go.Proofs.Ytmpbaanlagmacaa
