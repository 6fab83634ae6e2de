/- The example of law 59: its six worlds, the search through them. -/
import Derived.Test.YtfdndkgjmmeafaaGreatDoorG45
namespace Go.Proofs.YtfdndkgjmmeafaaGreatDoor
set_option linter.unusedSimpArgs false
set_option linter.unusedVariables false
open Go.RowKit Go.Maps Go.Sort
def awX (A : Nat → Option Addr) (c : Nat → Nat) : ActsV := ⟨A, c, fun k => if k = 0 then [⟨3, 0, 0, 0, 0, 1, 0, 0⟩] else if k = 1 then [⟨1, 0, 0, 0, 0, 0, 0, 0⟩] else []⟩
def aw0 (A : Nat → Option Addr) (c : Nat → Nat) : PW := PW0 [⟨0, 0, 0⟩] (awX A c)
def awOk (A : Nat → Option Addr) (c : Nat → Nat) (P : PW) : Prop := P = aw0 A c ∨ P = (aw0 A c).next (0, 0) ∨ P = ((aw0 A c).next (0, 0)).next (1, 0) ∨ P = ((aw0 A c).next (0, 0)).next (1, 1) ∨ P = (aw0 A c).next (1, 0) ∨ P = ((aw0 A c).next (1, 0)).next (0, 0)
theorem aw_in0 (A : Nat → Option Addr) (c : Nat → Nat) : (aw0 A c).In 1 3 0 := by
  refine PW0_in (ws := [⟨0, 0, 0⟩]) (fun y hy => ?_) (fun k hk => ?_)
  · rw [List.mem_singleton] at hy
    subst hy
    exact ⟨⟨rfl, rfl⟩, by decide⟩
  · have h3 : k = 0 ∨ k = 1 ∨ k = 2 := by omega
    rcases h3 with rfl | rfl | rfl
    · refine ⟨by show (1 : Nat) ≤ 100; decide, fun a ha => ?_⟩
      rw [show (awX A c).l 0 = [⟨3, 0, 0, 0, 0, 1, 0, 0⟩] from rfl, List.mem_singleton] at ha
      subst ha
      exact ⟨⟨.inr rfl, by decide, by decide⟩, ⟨⟨rfl, rfl⟩, by decide⟩⟩
    · refine ⟨by show (1 : Nat) ≤ 100; decide, fun a ha => ?_⟩
      rw [show (awX A c).l 1 = [⟨1, 0, 0, 0, 0, 0, 0, 0⟩] from rfl, List.mem_singleton] at ha
      subst ha
      exact ⟨⟨.inl rfl, by decide, by decide⟩, ⟨⟨rfl, rfl⟩, by decide⟩⟩
    · exact ⟨by show (0 : Nat) ≤ 100; decide, fun a ha => by cases ha⟩
theorem aw_cs0 (A : Nat → Option Addr) (c : Nat → Nat) : (aw0 A c).cs = [1, 1, 0] := by kernel_rfl
theorem aw_cs1 (A : Nat → Option Addr) (c : Nat → Nat) : ((aw0 A c).next (0, 0)).cs = [0, 2, 0] := by kernel_rfl
theorem aw_cs2 (A : Nat → Option Addr) (c : Nat → Nat) : (((aw0 A c).next (0, 0)).next (1, 0)).cs = [0, 0, 0] := by kernel_rfl
theorem aw_cs3 (A : Nat → Option Addr) (c : Nat → Nat) : (((aw0 A c).next (0, 0)).next (1, 1)).cs = [0, 0, 0] := by kernel_rfl
theorem aw_cs4 (A : Nat → Option Addr) (c : Nat → Nat) : ((aw0 A c).next (1, 0)).cs = [1, 0, 0] := by kernel_rfl
theorem aw_cs5 (A : Nat → Option Addr) (c : Nat → Nat) : (((aw0 A c).next (1, 0)).next (0, 0)).cs = [0, 0, 0] := by kernel_rfl
theorem aw_next (A : Nat → Option Addr) (c : Nat → Nat) (P : PW) (s : Nat × Nat) (h : awOk A c P) (hs : s ∈ stpTo P.cs P.cs.length) : awOk A c (P.next s) := by
  have e0 : stpTo [1, 1, 0] 3 = [(0, 0), (1, 0)] := by decide
  have e1 : stpTo [0, 2, 0] 3 = [(1, 0), (1, 1)] := by decide
  have e2 : stpTo [0, 0, 0] 3 = [] := by decide
  have e4 : stpTo [1, 0, 0] 3 = [(0, 0)] := by decide
  rcases h with rfl | rfl | rfl | rfl | rfl | rfl
  · rw [aw_cs0] at hs
    rw [show ([1, 1, 0] : List Nat).length = 3 from rfl, e0] at hs
    simp only [List.mem_cons, List.not_mem_nil, or_false] at hs
    rcases hs with rfl | rfl
    · exact .inr (.inl rfl)
    · exact .inr (.inr (.inr (.inr (.inl rfl))))
  · rw [aw_cs1] at hs
    rw [show ([0, 2, 0] : List Nat).length = 3 from rfl, e1] at hs
    simp only [List.mem_cons, List.not_mem_nil, or_false] at hs
    rcases hs with rfl | rfl
    · exact .inr (.inr (.inl rfl))
    · exact .inr (.inr (.inr (.inl rfl)))
  · rw [aw_cs2] at hs
    rw [show ([0, 0, 0] : List Nat).length = 3 from rfl, e2] at hs
    cases hs
  · rw [aw_cs3] at hs
    rw [show ([0, 0, 0] : List Nat).length = 3 from rfl, e2] at hs
    cases hs
  · rw [aw_cs4] at hs
    rw [show ([1, 0, 0] : List Nat).length = 3 from rfl, e4] at hs
    simp only [List.mem_cons, List.not_mem_nil, or_false] at hs
    subst hs
    exact .inr (.inr (.inr (.inr (.inr rfl))))
  · rw [aw_cs5] at hs
    rw [show ([0, 0, 0] : List Nat).length = 3 from rfl, e2] at hs
    cases hs
def shortK (P : PW) : Bool := P.keyP.length ≤ 1000 && P.outP.length ≤ 1000
theorem shortK_le {P : PW} (h : shortK P = true) : P.keyP.length ≤ 140737488355328 ∧ P.outP.length ≤ 140737488355328 := by
  unfold shortK at h
  rw [Bool.and_eq_true, decide_eq_true_eq, decide_eq_true_eq] at h
  omega
theorem aw_short0 (A : Nat → Option Addr) (c : Nat → Nat) : shortK (aw0 A c) = true := by kernel_rfl
theorem aw_short1 (A : Nat → Option Addr) (c : Nat → Nat) : shortK ((aw0 A c).next (0, 0)) = true := by kernel_rfl
theorem aw_short2 (A : Nat → Option Addr) (c : Nat → Nat) : shortK (((aw0 A c).next (0, 0)).next (1, 0)) = true := by kernel_rfl
theorem aw_short3 (A : Nat → Option Addr) (c : Nat → Nat) : shortK (((aw0 A c).next (0, 0)).next (1, 1)) = true := by kernel_rfl
theorem aw_short4 (A : Nat → Option Addr) (c : Nat → Nat) : shortK ((aw0 A c).next (1, 0)) = true := by kernel_rfl
theorem aw_short5 (A : Nat → Option Addr) (c : Nat → Nat) : shortK (((aw0 A c).next (1, 0)).next (0, 0)) = true := by kernel_rfl
theorem aw_in (A : Nat → Option Addr) (c : Nat → Nat) (P : PW) (h : awOk A c P) : ∃ n, n ≤ 2 ∧ P.In 1 3 n ∧ shortK P = true := by
  have h0 := aw_in0 A c
  have ch : ∀ (P : PW) (t : Nat), P.ch t = P.cs.getD t 0 := fun P t => (cs_getD P t).symm
  have h1 : ((aw0 A c).next (0, 0)).In 1 3 1 := next_in h0 (by rw [ch, aw_cs0]; decide)
  have h4 : ((aw0 A c).next (1, 0)).In 1 3 1 := next_in h0 (by rw [ch, aw_cs0]; decide)
  rcases h with rfl | rfl | rfl | rfl | rfl | rfl
  · exact ⟨0, by omega, h0, aw_short0 A c⟩
  · exact ⟨1, by omega, h1, aw_short1 A c⟩
  · exact ⟨2, by omega, next_in h1 (by rw [ch, aw_cs1]; decide), aw_short2 A c⟩
  · exact ⟨2, by omega, next_in h1 (by rw [ch, aw_cs1]; decide), aw_short3 A c⟩
  · exact ⟨1, by omega, h4, aw_short4 A c⟩
  · exact ⟨2, by omega, next_in h4 (by rw [ch, aw_cs4]; decide), aw_short5 A c⟩
theorem aw_fit (A : Nat → Option Addr) (c : Nat → Nat) (P : PW) (h : awOk A c P) : P.Fit ∧ ∀ r ∈ P.rows, (r.l.length ≤ 100 ∧ r.i ≤ r.l.length) ∧ ∀ a ∈ r.l, ActOk P.q.hs.length a := by
  obtain ⟨n, hn, hi, hs⟩ := aw_in A c P h
  obtain ⟨k1, k2⟩ := shortK_le hs
  refine ⟨hi.fit (by omega) (by omega) (by omega) k1 k2, fun r hr => ⟨(hi.rows r hr).1, fun a ha => ?_⟩⟩
  rw [hi.q.hs]
  exact ((hi.rows r hr).2 a ha).1
theorem aw_ok (A : Nat → Option Addr) (c : Nat → Nat) (B0 : Nat) (hB : 0 < B0) : ExplOK (rowsE (awOk A c) B0) B0 := rows_ok _ B0 hB (aw_fit A c) (aw_next A c)
def awF : DataW Unit := .map [(.string [49, 59, 32, 48, 59, 32, 48, 59], .lit (.bool true)), (.string [49, 59, 32, 48, 59, 32, 49, 59], .lit (.bool true))]
def isAw : Option (DataW Unit × DataW Unit × Bool) → Bool
  | some (S, .map [(.string k1, .lit (.bool true)), (.string k2, .lit (.bool true))], true) => Maps.size S == 5 && k1 == [49, 59, 32, 48, 59, 32, 48, 59] && k2 == [49, 59, 32, 48, 59, 32, 49, 59]
  | _ => false
theorem isAw_some {r : Option (DataW Unit × DataW Unit × Bool)} (h : isAw r = true) : ∃ S, r = some (S, awF, true) := by
  unfold isAw at h
  split at h
  · rename_i S k1 k2
    rw [Bool.and_eq_true, Bool.and_eq_true, beq_iff_eq, beq_iff_eq, beq_iff_eq] at h
    obtain ⟨⟨_, rfl⟩, rfl⟩ := h
    exact ⟨S, rfl⟩
  · cases h
set_option maxRecDepth 100000 in
theorem aw_all (A : Nat → Option Addr) (c : Nat → Nat) (B0 : Nat) : ∃ S, allP (rowsE (awOk A c) B0) 100 4 (aw0 A c) (.map []) (.map []) = some (S, awF, true) := isAw_some (by kernel_rfl)
end Go.Proofs.YtfdndkgjmmeafaaGreatDoor

namespace Go.Proofs.YtfdndkgjmmeafaaGreatDoor
set_option linter.unusedSimpArgs false
set_option linter.unusedVariables false
open Go.RowKit Go.Maps Go.Sort
theorem aw_sorted {ss : List (List UInt8)} (h : ss.Perm (strKeys awF)) : ss.mergeSort (fun x y => decide (x ≤ y)) = [[49, 59, 32, 48, 59, 32, 48, 59], [49, 59, 32, 48, 59, 32, 49, 59]] ∧ ss.length = 2 := by
  refine ⟨(mergeSort_of_perm h).trans (List.mergeSort_of_pairwise (l := [[49, 59, 32, 48, 59, 32, 48, 59], [49, 59, 32, 48, 59, 32, 49, 59]]) (List.pairwise_cons.2 ⟨fun b hb => by rw [List.mem_singleton.1 hb]; decide, List.pairwise_singleton _ _⟩)), ?_⟩
  rw [h.length_eq]
  rfl
def awStr : List ByteArray := [⟨#[49, 59, 32, 48, 59, 32, 48, 59]⟩, ⟨#[49, 59, 32, 48, 59, 32, 49, 59]⟩]
theorem aw_cells {W : World} {B g : Nat} (h : Rd W B 1 (some ⟨g, 0, none⟩) 2 ([[49, 59, 32, 48, 59, 32, 48, 59], [49, 59, 32, 48, 59, 32, 49, 59]].map encStr)) : ∀ j, j < awStr.length → W.cell? ⟨g, 0 + j, none⟩ = some (.string (awStr.getD j ByteArray.empty)) := by
  intro j hj
  obtain ⟨b, off, e, _, hc⟩ := h.2 (by decide)
  cases e
  match j, hj with
  | 0, _ => exact hc 0 _ rfl
  | 1, _ => exact hc 1 _ rfl
  | j + 2, hj => exact absurd hj (by show ¬ (j + 2 < 2); omega)
theorem aw_cells2 (W : World) (t : TypeId) : ∀ j, j < awStr.length → (W.alloc (.cells #[.string ⟨#[49, 59, 32, 48, 59, 32, 48, 59]⟩, .string ⟨#[49, 59, 32, 48, 59, 32, 49, 59]⟩] t)).cell? ⟨W.heap.size, 0 + j, none⟩ = some (.string (awStr.getD j ByteArray.empty)) := by
  intro j hj
  have q := BoxC.made W #[.string ⟨#[49, 59, 32, 48, 59, 32, 48, 59]⟩, .string ⟨#[49, 59, 32, 48, 59, 32, 49, 59]⟩] t
  match j, hj with
  | 0, _ => exact q.1 0 _ rfl
  | 1, _ => exact q.1 1 _ rfl
  | j + 2, hj => exact absurd hj (by show ¬ (j + 2 < 2); omega)
set_option maxHeartbeats 4000000 in
set_option maxRecDepth 100000 in
theorem awake59_any (w : World) (ht : Tab w) (hg : 0 < w.heap.size) : Calls Tryz.prog 4 #[] w fun e w' => e = .returned (.bool true) ∧ Below w.heap.size w w' := by
  obtain ⟨w1, hw1⟩ : ∃ W : World, W = (((w.alloc (.cells #[.int .i64 0, .int .u32 0, .int .u32 0] 25)).alloc (.cells #[.int .i64 3, .int .i64 0, .int .i64 0, .int .u32 0, .int .u32 0, .int .i64 1, .int .u32 0, .int .u32 0] 27)).alloc (.cells #[.int .i64 1, .int .i64 0, .int .i64 0, .int .u32 0, .int .u32 0, .int .i64 0, .int .u32 0, .int .u32 0] 27)) := ⟨_, rfl⟩
  have hB1 : Below w.heap.size w w1 := by rw [hw1]; exact ab0
  have hs1 : w1.heap.size = w.heap.size + 1 + 1 + 1 := by rw [hw1]; simp
  have q0 := BoxC.made w #[.int .i64 0, .int .u32 0, .int .u32 0] 25
  have q1 := BoxC.made (w.alloc (.cells #[.int .i64 0, .int .u32 0, .int .u32 0] 25)) #[.int .i64 3, .int .i64 0, .int .i64 0, .int .u32 0, .int .u32 0, .int .i64 1, .int .u32 0, .int .u32 0] 27
  have q2 := BoxC.made ((w.alloc (.cells #[.int .i64 0, .int .u32 0, .int .u32 0] 25)).alloc (.cells #[.int .i64 3, .int .i64 0, .int .i64 0, .int .u32 0, .int .u32 0, .int .i64 1, .int .u32 0, .int .u32 0] 27)) #[.int .i64 1, .int .i64 0, .int .i64 0, .int .u32 0, .int .u32 0, .int .i64 0, .int .u32 0, .int .u32 0] 27
  have hx : (awX (fun k => if k = 0 then some ⟨w.heap.size + 1, 0, none⟩ else if k = 1 then some ⟨w.heap.size + 1 + 1, 0, none⟩ else none) (fun k => if k = 2 then 0 else 1)).R w1 w1.heap.size := by
    intro k hk
    have h3 : k = 0 ∨ k = 1 ∨ k = 2 := by omega
    rcases h3 with rfl | rfl | rfl
    · refine ⟨rfl, fun _ => ⟨w.heap.size + 1, 0, rfl, by omega, fun j u hu => ?_⟩⟩
      have q := (q1.below (w' := w1) (by rw [hw1]; exact ab0)).1 j u hu
      simpa using q
    · refine ⟨rfl, fun _ => ⟨w.heap.size + 1 + 1, 0, rfl, by omega, fun j u hu => ?_⟩⟩
      have q := (q2.below (w' := w1) (by rw [hw1]; exact ab0)).1 j u hu
      simpa using q
    · exact Rd.nil _ _ _ _
  have hr : Rd w1 w1.heap.size 3 (some ⟨w.heap.size, 0, none⟩) 1 ([(⟨0, 0, 0⟩ : W3)].flatMap w3c) := by
    refine ⟨rfl, fun _ => ⟨w.heap.size, 0, rfl, by omega, fun j u hu => ?_⟩⟩
    have q := (q0.below (w' := w1) (by rw [hw1]; exact ab0)).1 j u hu
    rw [Nat.zero_add]
    exact q
  obtain ⟨A, hA⟩ : ∃ A : Nat → Option Addr, A = (fun k => if k = 0 then some ⟨w.heap.size + 1, 0, none⟩ else if k = 1 then some ⟨w.heap.size + 1 + 1, 0, none⟩ else none) := ⟨_, rfl⟩
  obtain ⟨c, hc⟩ : ∃ c : Nat → Nat, c = (fun k => if k = 2 then 0 else 1) := ⟨_, rfl⟩
  rw [← hA, ← hc] at hx
  have hwok : Calls Tryz.prog 7 #[.slice (some ⟨w.heap.size, 0, none⟩) 1 1, .agg #[.slice (some ⟨w.heap.size + 1, 0, none⟩) 1 1, .slice (some ⟨w.heap.size + 1 + 1, 0, none⟩) 1 1, .slice none 0 0]] w1 fun e w' => ∃ V : WorldV, e = .returned (.tuple #[(.agg #[.slice ((V).M).mem.pA ((V).M).mem.hs.length ((V).M).mem.pc, .slice ((V).M).mem.vA ((V).M).mem.vs.length ((V).M).mem.vc, .slice ((V).M).ln.fA ((V).M).ln.first.length ((V).M).ln.fc, .slice ((V).M).ln.lA ((V).M).ln.logs.length ((V).M).ln.lc, .map ((V).M).ln.asks, .slice ((V).M).sA ((V).M).steps.length ((V).M).sc, .int .i64 ((V).M).crashes, .slice (V).tA (V).ts.length (V).tc, .slice (V).sA (V).ss.length (V).sc]), .bool true]) ∧ Shows V (aw0 A c) ∧ V.R w' ∧ Below w1.heap.size w1 w' := by
    have q := world_ok (some ⟨w.heap.size, 0, none⟩) 1 1 [⟨0, 0, 0⟩] (awX A c) w1 rfl hr hx (fun k hk => by
      have h3 : k = 0 ∨ k = 1 ∨ k = 2 := by omega
      rcases h3 with rfl | rfl | rfl
      · show (1 : Nat) ≤ 4; decide
      · show (1 : Nat) ≤ 4; decide
      · show (0 : Nat) ≤ 4; decide) (by show (2 : Nat) ≤ 7; decide) (by decide) (by decide)
    have e0 : (awX A c).sl 0 = .slice (some ⟨w.heap.size + 1, 0, none⟩) 1 1 := by rw [hA, hc]; rfl
    have e1 : (awX A c).sl 1 = .slice (some ⟨w.heap.size + 1 + 1, 0, none⟩) 1 1 := by rw [hA, hc]; rfl
    have e2 : (awX A c).sl 2 = .slice none 0 0 := by rw [hA, hc]; rfl
    rw [e0, e1, e2] at q
    exact q
  obtain ⟨S, hall⟩ := aw_all A c w1.heap.size
  have hall2 := fun (V : WorldV) (W : World) (hS : Shows V (aw0 A c)) (hR : V.R W) (hW : Below w1.heap.size w1 W) => ex_All (rowsE (awOk A c) w1.heap.size) w1.heap.size (aw_ok A c _ (by omega)) 100 (by decide) (by decide) 4 (aw0 A c) S awF V W hall hR ⟨hS, by have := map_len hS.1.1; rw [this]; show (1 : Nat) ≤ 4096; decide⟩ ⟨.inl rfl, (fun r hr => by
      obtain ⟨k, hk, rfl⟩ := List.mem_map.1 (show r ∈ (List.range 3).map (fun k => (⟨A k, c k, (awX A c).l k, 0⟩ : RowP)) from hr)
      exact (hx k (List.mem_range.1 hk)).below hW), (ht.below hB1 hg).below hW (by omega), hW.size⟩ hW.size
  have Hwok := hide hwok
  have Hall := hide hall2
  have HB1 := hide hB1
  clear q0 q1 q2 hx hr hA hc hwok hall hall2 hB1 ht hg
  go_enter Tryz.func4, Tryz.ntmps4
  go_wp2_with (first
    | (rw [← hw1]; go_at_call 7; refine Hwok.out.mono ?_; rintro e w2 ⟨V, rfl, hS, hR, hb2⟩; have HS := hide hS; have HR := hide hR; have Hb2 := hide hb2; have hs2 := hb2.size; clear hS hR hb2)
    | (go_at_call 8; refine (Hall.out V _ HS.out (HR.out.below (Below.alloc (Below.refl _ _) (Nat.le_refl _) _)) (Hb2.out.trans (Below.alloc (Below.refl _ _) hs2 _))).mono ?_; rintro e w3 ⟨v, ss, rfl, hp, hrow, hb3⟩; have Hp := hide hp; have Hrow := hide hrow; have hs3 := hb3.size; (try simp at hs3); obtain ⟨hms, hsl⟩ := aw_sorted hp; rw [hms, hsl] at hrow; obtain ⟨g3, c3, rfl, hc3, hg3, hrd⟩ := own_some hrow (by decide); have Hrd := hide hrd; have Hb3 := hide hb3; clear hp hrow hb3 hms hsl hrd)
    | (go_at_call 9; refine (Tryz.slices_Equal_string g3 0 2 c3 w3.heap.size 0 2 2 awStr awStr _ (Nat.le_refl 2) (Nat.le_refl 2) (by decide) (by decide) (aw_cells (Hrd.out.below (Below.alloc (Below.refl _ _) (Nat.le_refl _) _))) (aw_cells2 w3 _)).mono ?_; rintro e w4 ⟨rfl, q, rfl⟩; rw [decide_eq_true (rfl : awStr.take 2 = awStr.take 2)]))
  have hs1' := HB1.out.size
  have hB2 : Below w.heap.size w w2 := HB1.out.trans (Hb2.out.mono hs1')
  have hB3 : Below w.heap.size w w3 := hB2.trans (((Below.alloc (Below.refl w2.heap.size w2) (Nat.le_refl _) _).trans (Hb3.out.mono (by simp))).mono hB2.size)
  have hs3' := hB3.size
  clear hw1
  go_ret
  exact ⟨rfl, ab0⟩
end Go.Proofs.YtfdndkgjmmeafaaGreatDoor

namespace Go.Proofs.YtfdndkgjmmeafaaGreatDoor
set_option linter.unusedSimpArgs false
set_option linter.unusedVariables false
open Go.RowKit Go.Maps Go.Sort
def rdB (o : Int) : Bool := o == 1 || o == 2 || o == 5
def wrB (o : Int) : Bool := o == 3 || o == 4 || o == 6
def skB (o : Int) : Bool := o == 0 || o == 8
def apartB (x y : AS) : Bool := if rdB y.o then x.l != y.l else x.l / 8 != y.l / 8
def indB (x y : AS) : Bool := if skB x.o || skB y.o then true else if !wrB x.o && !wrB y.o then true else if rdB x.o || rdB y.o then x.l != y.l else x.l / 8 != y.l / 8
def indR (x y : AS) : Bool := if skB x.o || skB y.o then true else if !wrB x.o && !wrB y.o then true else if wrB x.o then apartB x y else apartB y x
theorem wr_not_rd {o : Int} (h : wrB o = true) : rdB o = false := by
  unfold wrB at h
  unfold rdB
  simp only [Bool.or_eq_true, beq_iff_eq] at h
  simp only [Bool.or_eq_false_iff, beq_eq_false_iff_ne]
  omega
theorem ind_same (x y : AS) : indB x y = indR x y := by
  unfold indB indR apartB
  by_cases h1 : (skB x.o || skB y.o) = true
  · rw [if_pos h1, if_pos h1]
  · rw [if_neg h1, if_neg h1]
    cases hx : wrB x.o <;> cases hy : wrB y.o
    · rfl
    · have q := wr_not_rd hy
      rw [q]
      rw [bne_comm (a := y.l), bne_comm (a := y.l / 8)]
      cases rdB x.o <;> rfl
    · have q := wr_not_rd hx
      rw [q]
      cases rdB y.o <;> simp
    · have q := wr_not_rd hx
      have q2 := wr_not_rd hy
      rw [q, q2]
      simp
theorem ind_comm (x y : AS) : indB x y = indB y x := by
  unfold indB
  rw [Bool.or_comm (skB x.o), Bool.and_comm (!wrB x.o), Bool.or_comm (rdB x.o)]
  rw [bne_comm (a := x.l), bne_comm (a := x.l / 8)]
set_option maxHeartbeats 1000000 in
set_option maxRecDepth 100000 in
theorem reads_any (a : AS) (w : World) : Calls Tryz.prog 11 #[(.agg #[.int .i64 (a).o, .int .i64 (a).l, .int .i64 (a).v, .int .u32 (a).r, .int .u32 (a).f, .int .i64 (a).v2, .int .u32 (a).r2, .int .u32 (a).f2])] w fun e w' => e = .returned (.bool (rdB a.o)) ∧ Below w.heap.size w w' := by
  unfold rdB
  obtain ⟨o, l, v1, r1, f1, v2, r2, f2⟩ := a
  simp only
  by_cases h1 : o = 1
  · subst h1
    go_enter Tryz.func11, Tryz.ntmps11
    go_wp2_with fail
    go_ret
    exact ⟨by simp, ab0⟩
  · by_cases h2 : o = 2
    · subst h2
      go_enter Tryz.func11, Tryz.ntmps11
      go_wp2_with fail
      go_ret
      exact ⟨by simp, ab0⟩
    · go_enter Tryz.func11, Tryz.ntmps11
      go_wp2_with fail
      go_ret
      refine ⟨?_, ab0⟩
      simp [h1, h2]
theorem rreads_any (o : Int) (w : World) : Calls Tryz.prog 19 #[.int .i64 o] w fun e w' => e = .returned (.bool (rdB o)) ∧ Below w.heap.size w w' := by
  unfold rdB
  by_cases h1 : o = 1
  · subst h1
    go_enter Tryz.func19, Tryz.ntmps19
    go_wp2_with fail
    go_ret
    exact ⟨by simp, ab0⟩
  · by_cases h2 : o = 2
    · subst h2
      go_enter Tryz.func19, Tryz.ntmps19
      go_wp2_with fail
      go_ret
      exact ⟨by simp, ab0⟩
    · go_enter Tryz.func19, Tryz.ntmps19
      go_wp2_with fail
      go_ret
      refine ⟨?_, ab0⟩
      simp [h1, h2]
theorem rchanges_any (o : Int) (w : World) : Calls Tryz.prog 12 #[.int .i64 o] w fun e w' => e = .returned (.bool (wrB o)) ∧ Below w.heap.size w w' := by
  unfold wrB
  by_cases h1 : o = 3
  · subst h1
    go_enter Tryz.func12, Tryz.ntmps12
    go_wp2_with fail
    go_ret
    exact ⟨by simp, ab0⟩
  · by_cases h2 : o = 4
    · subst h2
      go_enter Tryz.func12, Tryz.ntmps12
      go_wp2_with fail
      go_ret
      exact ⟨by simp, ab0⟩
    · go_enter Tryz.func12, Tryz.ntmps12
      go_wp2_with fail
      go_ret
      refine ⟨?_, ab0⟩
      simp [h1, h2]
set_option maxHeartbeats 1000000 in
set_option maxRecDepth 100000 in
theorem apart_any (x y : AS) (w : World) (hx : 0 ≤ x.l ∧ x.l ≤ 4095) (hy : 0 ≤ y.l ∧ y.l ≤ 4095) : Calls Tryz.prog 13 #[(.agg #[.int .i64 (x).o, .int .i64 (x).l, .int .i64 (x).v, .int .u32 (x).r, .int .u32 (x).f, .int .i64 (x).v2, .int .u32 (x).r2, .int .u32 (x).f2]), (.agg #[.int .i64 (y).o, .int .i64 (y).l, .int .i64 (y).v, .int .u32 (y).r, .int .u32 (y).f, .int .i64 (y).v2, .int .u32 (y).r2, .int .u32 (y).f2])] w fun e w' => e = .returned (.bool (apartB x y)) ∧ Below w.heap.size w w' := by
  have hq := fun W => rreads_any y.o W
  have Hq := hide hq
  clear hq
  unfold apartB
  cases h : rdB y.o
  all_goals rw [h] at Hq
  all_goals go_enter Tryz.func13, Tryz.ntmps13
  all_goals go_wp2_with (go_at_call 19; refine (Hq.out _).mono ?_; rintro e w1 ⟨rfl, hb1⟩; obtain ⟨hcc1, hff1⟩ := bcell hb1; have hs1 := hb1.size; (try simp at hs1); have hz10 : w.heap.size < w1.heap.size := (by omega); have hz11 : w.heap.size + 1 < w1.heap.size := (by omega))
  all_goals go_ret
  all_goals refine ⟨?_, ab0⟩
  all_goals first | rfl | (simp; done)
set_option maxHeartbeats 4000000 in
set_option maxRecDepth 100000 in
theorem rind_any (x y : AS) (w : World) (hx : 0 ≤ x.l ∧ x.l ≤ 4095) (hy : 0 ≤ y.l ∧ y.l ≤ 4095) : Calls Tryz.prog 6 #[(.agg #[.int .i64 (x).o, .int .i64 (x).l, .int .i64 (x).v, .int .u32 (x).r, .int .u32 (x).f, .int .i64 (x).v2, .int .u32 (x).r2, .int .u32 (x).f2]), (.agg #[.int .i64 (y).o, .int .i64 (y).l, .int .i64 (y).v, .int .u32 (y).r, .int .u32 (y).f, .int .i64 (y).v2, .int .u32 (y).r2, .int .u32 (y).f2])] w fun e w' => e = .returned (.bool (indR x y)) ∧ Below w.heap.size w w' := by
  have hcx := fun W => rchanges_any x.o W
  have hcy := fun W => rchanges_any y.o W
  have hxy := fun W => apart_any x y W hx hy
  have hyx := fun W => apart_any y x W hy hx
  have Hcx := hide hcx
  have Hcy := hide hcy
  have Hxy := hide hxy
  have Hyx := hide hyx
  clear hcx hcy hxy hyx hx hy
  unfold indR skB
  obtain ⟨ax, hax⟩ : ∃ b, b = apartB x y := ⟨_, rfl⟩
  obtain ⟨ay, hay⟩ : ∃ b, b = apartB y x := ⟨_, rfl⟩
  rw [← hax, ← hay]
  rw [← hax] at Hxy
  rw [← hay] at Hyx
  clear hax hay
  obtain ⟨wx, hwx⟩ : ∃ b, b = wrB x.o := ⟨_, rfl⟩
  obtain ⟨wy, hwy⟩ : ∃ b, b = wrB y.o := ⟨_, rfl⟩
  rw [← hwx, ← hwy]
  rw [← hwx] at Hcx
  rw [← hwy] at Hcy
  clear hwx hwy
  obtain ⟨r, hr⟩ : ∃ r, r = (if (x.o == 0 || x.o == 8) || (y.o == 0 || y.o == 8) then true else if !wx && !wy then true else if wx then ax else ay) := ⟨_, rfl⟩
  rw [← hr]
  have Hr := hide hr
  clear hr
  by_cases h1 : x.o = 0
  · have hrt : r = true := by rw [Hr.out, h1]; simp
    subst hrt
    clear Hr
    rw [h1]
    go_enter Tryz.func6, Tryz.ntmps6
    go_wp2_with fail
    all_goals go_ret
    all_goals exact ⟨rfl, ab0⟩
  have b1 : (x.o == 0) = false := by simpa using h1
  by_cases h2 : x.o = 8
  · have hrt : r = true := by rw [Hr.out, h2]; simp
    subst hrt
    clear Hr
    rw [h2]
    go_enter Tryz.func6, Tryz.ntmps6
    go_wp2_with fail
    all_goals go_ret
    all_goals exact ⟨rfl, ab0⟩
  have b2 : (x.o == 8) = false := by simpa using h2
  by_cases h3 : y.o = 0
  · have hrt : r = true := by rw [Hr.out, h3]; simp
    subst hrt
    clear Hr
    rw [h3]
    go_enter Tryz.func6, Tryz.ntmps6
    go_wp2_with fail
    all_goals go_ret
    all_goals exact ⟨rfl, ab0⟩
  have b3 : (y.o == 0) = false := by simpa using h3
  by_cases h4 : y.o = 8
  · have hrt : r = true := by rw [Hr.out, h4]; simp
    subst hrt
    clear Hr
    rw [h4]
    go_enter Tryz.func6, Tryz.ntmps6
    go_wp2_with fail
    all_goals go_ret
    all_goals exact ⟨rfl, ab0⟩
  have b4 : (y.o == 8) = false := by simpa using h4
  rw [b1, b2, b3, b4] at Hr
  clear h1 h2 h3 h4
  cases wx
  all_goals cases wy
  all_goals go_enter Tryz.func6, Tryz.ntmps6
  all_goals go_wp2_with (first
    | (go_at_call 12; with_reducible refine (Hcx.out _).mono ?_; rintro e w1 ⟨rfl, hb1⟩; obtain ⟨hcc1, hff1⟩ := bcell hb1; have hs1 := hb1.size; (try simp at hs1); have hz10 : w.heap.size < w1.heap.size := (by omega); have hz11 : w.heap.size + 1 < w1.heap.size := (by omega))
    | (go_at_call 12; with_reducible refine (Hcy.out _).mono ?_; rintro e w2 ⟨rfl, hb2⟩; obtain ⟨hcc2, hff2⟩ := bcell hb2; have hs2 := hb2.size; (try simp at hs2); have hz20 : w.heap.size < w2.heap.size := (by omega); have hz21 : w.heap.size + 1 < w2.heap.size := (by omega))
    | (go_at_call 13; with_reducible refine (Hxy.out _).mono ?_; rintro e w4 ⟨rfl, hb4⟩)
    | (go_at_call 13; with_reducible refine (Hyx.out _).mono ?_; rintro e w5 ⟨rfl, hb5⟩))
  all_goals go_ret
  all_goals exact ⟨by rw [Hr.out]; rfl, ab0⟩
/-- The two acts, boxed, and the slice of the two. -/
structure TwoA (b : Nat) (x y : AS) (w : World) : Prop where
  bx : BoxC b (actc x) w
  yb : BoxC (b + 1) (actc y) w
  s : BoxC (b + 1 + 1) (actc x ++ actc y) w
theorem TwoA.below {b : Nat} {x y : AS} {w w' : World} (h : TwoA b x y w) (hb : Below w.heap.size w w') : TwoA b x y w' := ⟨h.bx.below hb, h.yb.below hb, h.s.below hb⟩
set_option maxHeartbeats 4000000 in
set_option maxRecDepth 100000 in
theorem ind_any (x y : AS) (w : World) (hx : 0 ≤ x.l ∧ x.l ≤ 4095) (hy : 0 ≤ y.l ∧ y.l ≤ 4095) : Calls Tryz.prog 5 #[(.agg #[.int .i64 (x).o, .int .i64 (x).l, .int .i64 (x).v, .int .u32 (x).r, .int .u32 (x).f, .int .i64 (x).v2, .int .u32 (x).r2, .int .u32 (x).f2]), (.agg #[.int .i64 (y).o, .int .i64 (y).l, .int .i64 (y).v, .int .u32 (y).r, .int .u32 (y).f, .int .i64 (y).v2, .int .u32 (y).r2, .int .u32 (y).f2])] w fun e w' => e = .returned (.bool (indB x y)) ∧ Below w.heap.size w w' := by
  have hcx := fun W => mach_changes ⟨x.o, x.l, ⟨x.v, x.r, x.f⟩, ⟨x.v2, x.r2, x.f2⟩⟩ W
  have hcy := fun W => mach_changes ⟨y.o, y.l, ⟨y.v, y.r, y.f⟩, ⟨y.v2, y.r2, y.f2⟩⟩ W
  have hrx := fun W => reads_any x W
  have hry := fun W => reads_any y W
  have ew : ∀ o : Int, (decide (o = 3) || decide (o = 4) || decide (o = 6)) = wrB o := fun o => rfl
  simp only [ew] at hcx hcy
  unfold indB skB
  obtain ⟨wx, hwx⟩ : ∃ b, b = wrB x.o := ⟨_, rfl⟩
  obtain ⟨wy, hwy⟩ : ∃ b, b = wrB y.o := ⟨_, rfl⟩
  obtain ⟨rx, hrx'⟩ : ∃ b, b = rdB x.o := ⟨_, rfl⟩
  obtain ⟨ry, hry'⟩ : ∃ b, b = rdB y.o := ⟨_, rfl⟩
  rw [← hwx, ← hwy, ← hrx', ← hry']
  rw [← hwx] at hcx
  rw [← hwy] at hcy
  rw [← hrx'] at hrx
  rw [← hry'] at hry
  clear hwx hwy hrx' hry' ew
  have Hcx := hide hcx
  have Hcy := hide hcy
  have Hrx := hide hrx
  have Hry := hide hry
  clear hcx hcy hrx hry
  obtain ⟨r, hr⟩ : ∃ r, r = (if (x.o == 0 || x.o == 8) || (y.o == 0 || y.o == 8) then true else if !wx && !wy then true else if rx || ry then x.l != y.l else x.l / 8 != y.l / 8) := ⟨_, rfl⟩
  rw [← hr]
  have Hr := hide hr
  clear hr
  go_enter Tryz.func5, Tryz.ntmps5
  go_wp2_with fail
  obtain ⟨w1, hw1⟩ : ∃ W : World, W = ((w.alloc (.cells #[.int .i64 (x).o, .int .i64 (x).l, .int .i64 (x).v, .int .u32 (x).r, .int .u32 (x).f, .int .i64 (x).v2, .int .u32 (x).r2, .int .u32 (x).f2] 27)).alloc (.cells #[.int .i64 (y).o, .int .i64 (y).l, .int .i64 (y).v, .int .u32 (y).r, .int .u32 (y).f, .int .i64 (y).v2, .int .u32 (y).r2, .int .u32 (y).f2] 27)).alloc (.cells #[.int .i64 (x).o, .int .i64 (x).l, .int .i64 (x).v, .int .u32 (x).r, .int .u32 (x).f, .int .i64 (x).v2, .int .u32 (x).r2, .int .u32 (x).f2, .int .i64 (y).o, .int .i64 (y).l, .int .i64 (y).v, .int .u32 (y).r, .int .u32 (y).f, .int .i64 (y).v2, .int .u32 (y).r2, .int .u32 (y).f2] 27) := ⟨_, rfl⟩
  have hB1 : Below w.heap.size w w1 := by rw [hw1]; exact ab0
  have hs1 : w1.heap.size = w.heap.size + 1 + 1 + 1 := by rw [hw1]; simp
  have hT1 : TwoA w.heap.size x y w1 := by
    refine ⟨?_, ?_, ?_⟩
    · rw [hw1]
      exact (BoxC.made w #[.int .i64 (x).o, .int .i64 (x).l, .int .i64 (x).v, .int .u32 (x).r, .int .u32 (x).f, .int .i64 (x).v2, .int .u32 (x).r2, .int .u32 (x).f2] 27).below ab0
    · rw [hw1]
      have q := (BoxC.made (w.alloc (.cells #[.int .i64 (x).o, .int .i64 (x).l, .int .i64 (x).v, .int .u32 (x).r, .int .u32 (x).f, .int .i64 (x).v2, .int .u32 (x).r2, .int .u32 (x).f2] 27)) #[.int .i64 (y).o, .int .i64 (y).l, .int .i64 (y).v, .int .u32 (y).r, .int .u32 (y).f, .int .i64 (y).v2, .int .u32 (y).r2, .int .u32 (y).f2] 27).below (w' := ((w.alloc (.cells #[.int .i64 (x).o, .int .i64 (x).l, .int .i64 (x).v, .int .u32 (x).r, .int .u32 (x).f, .int .i64 (x).v2, .int .u32 (x).r2, .int .u32 (x).f2] 27)).alloc (.cells #[.int .i64 (y).o, .int .i64 (y).l, .int .i64 (y).v, .int .u32 (y).r, .int .u32 (y).f, .int .i64 (y).v2, .int .u32 (y).r2, .int .u32 (y).f2] 27)).alloc (.cells #[.int .i64 (x).o, .int .i64 (x).l, .int .i64 (x).v, .int .u32 (x).r, .int .u32 (x).f, .int .i64 (x).v2, .int .u32 (x).r2, .int .u32 (x).f2, .int .i64 (y).o, .int .i64 (y).l, .int .i64 (y).v, .int .u32 (y).r, .int .u32 (y).f, .int .i64 (y).v2, .int .u32 (y).r2, .int .u32 (y).f2] 27)) ab0
      have e : (w.alloc (.cells #[.int .i64 (x).o, .int .i64 (x).l, .int .i64 (x).v, .int .u32 (x).r, .int .u32 (x).f, .int .i64 (x).v2, .int .u32 (x).r2, .int .u32 (x).f2] 27)).heap.size = w.heap.size + 1 := by simp
      rw [e] at q
      exact q
    · rw [hw1]
      have q := BoxC.made ((w.alloc (.cells #[.int .i64 (x).o, .int .i64 (x).l, .int .i64 (x).v, .int .u32 (x).r, .int .u32 (x).f, .int .i64 (x).v2, .int .u32 (x).r2, .int .u32 (x).f2] 27)).alloc (.cells #[.int .i64 (y).o, .int .i64 (y).l, .int .i64 (y).v, .int .u32 (y).r, .int .u32 (y).f, .int .i64 (y).v2, .int .u32 (y).r2, .int .u32 (y).f2] 27)) #[.int .i64 (x).o, .int .i64 (x).l, .int .i64 (x).v, .int .u32 (x).r, .int .u32 (x).f, .int .i64 (x).v2, .int .u32 (x).r2, .int .u32 (x).f2, .int .i64 (y).o, .int .i64 (y).l, .int .i64 (y).v, .int .u32 (y).r, .int .u32 (y).f, .int .i64 (y).v2, .int .u32 (y).r2, .int .u32 (y).f2] 27
      have e : ((w.alloc (.cells #[.int .i64 (x).o, .int .i64 (x).l, .int .i64 (x).v, .int .u32 (x).r, .int .u32 (x).f, .int .i64 (x).v2, .int .u32 (x).r2, .int .u32 (x).f2] 27)).alloc (.cells #[.int .i64 (y).o, .int .i64 (y).l, .int .i64 (y).v, .int .u32 (y).r, .int .u32 (y).f, .int .i64 (y).v2, .int .u32 (y).r2, .int .u32 (y).f2] 27)).heap.size = w.heap.size + 1 + 1 := by simp
      rw [e] at q
      exact q
  have HT1 := hide hT1
  rw [← hw1]
  clear hw1 hT1
  go_loopw [11] (fun i wr => ∃ (k : Nat) (z : Int), i = .int .i64 z ∧ z = k ∧ k ≤ 2 ∧ Hid (1 ≤ k → (x.o == 0) = false ∧ (x.o == 8) = false) ∧ Hid (2 ≤ k → (y.o == 0) = false ∧ (y.o == 8) = false) ∧ Hid (Below w1.heap.size w1 wr)) (fun i _ => 2 - (intOf i).toNat)
  case atStart => exact ⟨0, 0, rfl, rfl, by omega, hide (fun h => absurd h (by omega)), hide (fun h => absurd h (by omega)), hide (Below.refl _ _)⟩
  case round =>
    obtain ⟨k, z, rfl, hz, hk, Hk1, Hk2, HB⟩ := hrel
    have hsr := HB.out.size
    have hT : TwoA w.heap.size x y wr := HT1.out.below HB.out
    have hBw : Below w.heap.size w wr := hB1.trans (HB.out.mono hB1.size)
    have h3 : k = 0 ∨ k = 1 ∨ k = 2 := by omega
    rcases h3 with rfl | rfl | rfl
    · obtain rfl : z = 0 := by omega
      have hz0 : w.heap.size < wr.heap.size := by omega
      have hz1 : w.heap.size + 1 < wr.heap.size := by omega
      have hz2 : w.heap.size + 1 + 1 < wr.heap.size := by omega
      have c0 := hT.s.at (j := 0) rfl
      have c1 := hT.s.at (j := 1) rfl
      have c2 := hT.s.at (j := 2) rfl
      have c3 := hT.s.at (j := 3) rfl
      have c4 := hT.s.at (j := 4) rfl
      have c5 := hT.s.at (j := 5) rfl
      have c6 := hT.s.at (j := 6) rfl
      have c7 := hT.s.at (j := 7) rfl
      clear hz hk hT
      by_cases h0 : x.o = 0
      · have hrt : r = true := by rw [Hr.out, h0]; simp
        subst hrt
        clear Hr
        rw [h0] at c0
        go_wp2_with fail
        all_goals go_ret
        all_goals exact ⟨rfl, ab0⟩
      have b0 : (x.o == 0) = false := by simpa using h0
      clear h0
      by_cases h8 : x.o = 8
      · have hrt : r = true := by rw [Hr.out, h8]; simp
        subst hrt
        clear Hr
        rw [h8] at c0
        go_wp2_with fail
        all_goals go_ret
        all_goals exact ⟨rfl, ab0⟩
      have b8 : (x.o == 8) = false := by simpa using h8
      clear h8
      have hk1' : Hid (1 ≤ 1 → (x.o == 0) = false ∧ (x.o == 8) = false) := hide (fun _ => ⟨b0, b8⟩)
      have hk2' : Hid (2 ≤ 1 → (y.o == 0) = false ∧ (y.o == 8) = false) := hide (fun h => absurd h (by omega))
      have HBw := hide hBw
      clear Hk1 Hk2 hBw
      go_wp2_with fail
      all_goals first
        | exact ⟨⟨1, 1, by go_num, rfl, by omega, hk1', hk2', hide (HB.out.trans (ab0))⟩, by simp [intOf]⟩
        | ((repeat apply Exists.intro); exact ⟨⟨1, 1, by go_num, rfl, by omega, hk1', hk2', hide (HB.out.trans (ab0))⟩, by simp [intOf]⟩)
    · obtain rfl : z = 1 := by omega
      have hz0 : w.heap.size < wr.heap.size := by omega
      have hz1 : w.heap.size + 1 < wr.heap.size := by omega
      have hz2 : w.heap.size + 1 + 1 < wr.heap.size := by omega
      have c0 := hT.s.at (j := 8) rfl
      have c1 := hT.s.at (j := 9) rfl
      have c2 := hT.s.at (j := 10) rfl
      have c3 := hT.s.at (j := 11) rfl
      have c4 := hT.s.at (j := 12) rfl
      have c5 := hT.s.at (j := 13) rfl
      have c6 := hT.s.at (j := 14) rfl
      have c7 := hT.s.at (j := 15) rfl
      clear hz hk hT
      by_cases h0 : y.o = 0
      · have hrt : r = true := by rw [Hr.out, h0]; simp
        subst hrt
        clear Hr
        rw [h0] at c0
        go_wp2_with fail
        all_goals go_ret
        all_goals exact ⟨rfl, ab0⟩
      have b0 : (y.o == 0) = false := by simpa using h0
      clear h0
      by_cases h8 : y.o = 8
      · have hrt : r = true := by rw [Hr.out, h8]; simp
        subst hrt
        clear Hr
        rw [h8] at c0
        go_wp2_with fail
        all_goals go_ret
        all_goals exact ⟨rfl, ab0⟩
      have b8 : (y.o == 8) = false := by simpa using h8
      clear h8
      have hk1' : Hid (1 ≤ 2 → (x.o == 0) = false ∧ (x.o == 8) = false) := hide (fun _ => Hk1.out (by omega))
      have hk2' : Hid (2 ≤ 2 → (y.o == 0) = false ∧ (y.o == 8) = false) := hide (fun _ => ⟨b0, b8⟩)
      have HBw := hide hBw
      clear Hk1 Hk2 hBw
      go_wp2_with fail
      all_goals first
        | exact ⟨⟨2, 2, by go_num, rfl, by omega, hk1', hk2', hide (HB.out.trans (ab0))⟩, by simp [intOf]⟩
        | ((repeat apply Exists.intro); exact ⟨⟨2, 2, by go_num, rfl, by omega, hk1', hk2', hide (HB.out.trans (ab0))⟩, by simp [intOf]⟩)
    · obtain rfl : z = 2 := by omega
      obtain ⟨b1, b2⟩ := Hk1.out (by omega)
      obtain ⟨b3, b4⟩ := Hk2.out (by omega)
      rw [b1, b2, b3, b4] at Hr
      have hz0 : w.heap.size < wr.heap.size := by omega
      have hz1 : w.heap.size + 1 < wr.heap.size := by omega
      have hz2 : w.heap.size + 1 + 1 < wr.heap.size := by omega
      have c0 := hT.bx.at (j := 0) rfl
      have d0 := hT.yb.at (j := 0) rfl
      have c1 := hT.bx.at (j := 1) rfl
      have d1 := hT.yb.at (j := 1) rfl
      have c2 := hT.bx.at (j := 2) rfl
      have d2 := hT.yb.at (j := 2) rfl
      have c3 := hT.bx.at (j := 3) rfl
      have d3 := hT.yb.at (j := 3) rfl
      have c4 := hT.bx.at (j := 4) rfl
      have d4 := hT.yb.at (j := 4) rfl
      have c5 := hT.bx.at (j := 5) rfl
      have d5 := hT.yb.at (j := 5) rfl
      have c6 := hT.bx.at (j := 6) rfl
      have d6 := hT.yb.at (j := 6) rfl
      have c7 := hT.bx.at (j := 7) rfl
      have d7 := hT.yb.at (j := 7) rfl
      clear hz hk Hk1 Hk2 b1 b2 b3 b4 hT
      cases wx
      all_goals cases wy
      all_goals cases rx
      all_goals cases ry
      all_goals go_wp2_with (first
        | (go_at_call 10; with_reducible refine (Hcx.out _).mono ?_; rintro e w3 ⟨rfl, hb3⟩; obtain ⟨hcc3, hff3⟩ := bcell hb3; have hs3 := hb3.size; (try simp at hs3); have hz30 : w.heap.size < w3.heap.size := (by omega); have hz31 : w.heap.size + 1 < w3.heap.size := (by omega))
        | (go_at_call 10; with_reducible refine (Hcy.out _).mono ?_; rintro e w4 ⟨rfl, hb4⟩; obtain ⟨hcc4, hff4⟩ := bcell hb4; have hs4 := hb4.size; (try simp at hs4); have hz40 : w.heap.size < w4.heap.size := (by omega); have hz41 : w.heap.size + 1 < w4.heap.size := (by omega))
        | (go_at_call 11; with_reducible refine (Hrx.out _).mono ?_; rintro e w5 ⟨rfl, hb5⟩; obtain ⟨hcc5, hff5⟩ := bcell hb5; have hs5 := hb5.size; (try simp at hs5); have hz50 : w.heap.size < w5.heap.size := (by omega); have hz51 : w.heap.size + 1 < w5.heap.size := (by omega))
        | (go_at_call 11; with_reducible refine (Hry.out _).mono ?_; rintro e w6 ⟨rfl, hb6⟩; obtain ⟨hcc6, hff6⟩ := bcell hb6; have hs6 := hb6.size; (try simp at hs6); have hz60 : w.heap.size < w6.heap.size := (by omega); have hz61 : w.heap.size + 1 < w6.heap.size := (by omega)))
      all_goals go_ret
      all_goals exact ⟨by rw [Hr.out]; rfl, ab0⟩
end Go.Proofs.YtfdndkgjmmeafaaGreatDoor

namespace Go.Proofs.YtfdndkgjmmeafaaGreatDoor
set_option linter.unusedSimpArgs false
set_option linter.unusedVariables false
open Go.RowKit Go.Maps Go.Sort
theorem TwoA.drew {b : Nat} {x y : AS} {w : World} (h : TwoA b x y w) : TwoA b x y w.drew := h.below (Below.drew (Below.refl _ _))
set_option maxHeartbeats 4000000 in
set_option maxRecDepth 100000 in
theorem indep_any (x y : AS) (w : World) (ht : Tab w) (hg : 0 < w.heap.size) : Calls Tryz.prog 3 #[(.agg #[.int .i64 (x).o, .int .i64 (x).l, .int .i64 (x).v, .int .u32 (x).r, .int .u32 (x).f, .int .i64 (x).v2, .int .u32 (x).r2, .int .u32 (x).f2]), (.agg #[.int .i64 (y).o, .int .i64 (y).l, .int .i64 (y).v, .int .u32 (y).r, .int .u32 (y).f, .int .i64 (y).v2, .int .u32 (y).r2, .int .u32 (y).f2])] w fun e w' => e = .returned (.bool true) ∧ Below w.heap.size w w' := by
  have HTab := hide ht
  clear ht
  go_enter Tryz.func3, Tryz.ntmps3
  go_wp2_with fail
  obtain ⟨w1, hw1⟩ : ∃ W : World, W = ((w.alloc (.cells #[.int .i64 (x).o, .int .i64 (x).l, .int .i64 (x).v, .int .u32 (x).r, .int .u32 (x).f, .int .i64 (x).v2, .int .u32 (x).r2, .int .u32 (x).f2] 27)).alloc (.cells #[.int .i64 (y).o, .int .i64 (y).l, .int .i64 (y).v, .int .u32 (y).r, .int .u32 (y).f, .int .i64 (y).v2, .int .u32 (y).r2, .int .u32 (y).f2] 27)).alloc (.cells #[.int .i64 (x).o, .int .i64 (x).l, .int .i64 (x).v, .int .u32 (x).r, .int .u32 (x).f, .int .i64 (x).v2, .int .u32 (x).r2, .int .u32 (x).f2, .int .i64 (y).o, .int .i64 (y).l, .int .i64 (y).v, .int .u32 (y).r, .int .u32 (y).f, .int .i64 (y).v2, .int .u32 (y).r2, .int .u32 (y).f2] 27) := ⟨_, rfl⟩
  have hB1 : Below w.heap.size w w1 := by rw [hw1]; exact ab0
  have hs1 : w1.heap.size = w.heap.size + 1 + 1 + 1 := by rw [hw1]; simp
  have hT1 : TwoA w.heap.size x y w1 := by
    refine ⟨?_, ?_, ?_⟩
    · rw [hw1]
      exact (BoxC.made w #[.int .i64 (x).o, .int .i64 (x).l, .int .i64 (x).v, .int .u32 (x).r, .int .u32 (x).f, .int .i64 (x).v2, .int .u32 (x).r2, .int .u32 (x).f2] 27).below ab0
    · rw [hw1]
      have q := (BoxC.made (w.alloc (.cells #[.int .i64 (x).o, .int .i64 (x).l, .int .i64 (x).v, .int .u32 (x).r, .int .u32 (x).f, .int .i64 (x).v2, .int .u32 (x).r2, .int .u32 (x).f2] 27)) #[.int .i64 (y).o, .int .i64 (y).l, .int .i64 (y).v, .int .u32 (y).r, .int .u32 (y).f, .int .i64 (y).v2, .int .u32 (y).r2, .int .u32 (y).f2] 27).below (w' := ((w.alloc (.cells #[.int .i64 (x).o, .int .i64 (x).l, .int .i64 (x).v, .int .u32 (x).r, .int .u32 (x).f, .int .i64 (x).v2, .int .u32 (x).r2, .int .u32 (x).f2] 27)).alloc (.cells #[.int .i64 (y).o, .int .i64 (y).l, .int .i64 (y).v, .int .u32 (y).r, .int .u32 (y).f, .int .i64 (y).v2, .int .u32 (y).r2, .int .u32 (y).f2] 27)).alloc (.cells #[.int .i64 (x).o, .int .i64 (x).l, .int .i64 (x).v, .int .u32 (x).r, .int .u32 (x).f, .int .i64 (x).v2, .int .u32 (x).r2, .int .u32 (x).f2, .int .i64 (y).o, .int .i64 (y).l, .int .i64 (y).v, .int .u32 (y).r, .int .u32 (y).f, .int .i64 (y).v2, .int .u32 (y).r2, .int .u32 (y).f2] 27)) ab0
      have e : (w.alloc (.cells #[.int .i64 (x).o, .int .i64 (x).l, .int .i64 (x).v, .int .u32 (x).r, .int .u32 (x).f, .int .i64 (x).v2, .int .u32 (x).r2, .int .u32 (x).f2] 27)).heap.size = w.heap.size + 1 := by simp
      rw [e] at q
      exact q
    · rw [hw1]
      have q := BoxC.made ((w.alloc (.cells #[.int .i64 (x).o, .int .i64 (x).l, .int .i64 (x).v, .int .u32 (x).r, .int .u32 (x).f, .int .i64 (x).v2, .int .u32 (x).r2, .int .u32 (x).f2] 27)).alloc (.cells #[.int .i64 (y).o, .int .i64 (y).l, .int .i64 (y).v, .int .u32 (y).r, .int .u32 (y).f, .int .i64 (y).v2, .int .u32 (y).r2, .int .u32 (y).f2] 27)) #[.int .i64 (x).o, .int .i64 (x).l, .int .i64 (x).v, .int .u32 (x).r, .int .u32 (x).f, .int .i64 (x).v2, .int .u32 (x).r2, .int .u32 (x).f2, .int .i64 (y).o, .int .i64 (y).l, .int .i64 (y).v, .int .u32 (y).r, .int .u32 (y).f, .int .i64 (y).v2, .int .u32 (y).r2, .int .u32 (y).f2] 27
      have e : ((w.alloc (.cells #[.int .i64 (x).o, .int .i64 (x).l, .int .i64 (x).v, .int .u32 (x).r, .int .u32 (x).f, .int .i64 (x).v2, .int .u32 (x).r2, .int .u32 (x).f2] 27)).alloc (.cells #[.int .i64 (y).o, .int .i64 (y).l, .int .i64 (y).v, .int .u32 (y).r, .int .u32 (y).f, .int .i64 (y).v2, .int .u32 (y).r2, .int .u32 (y).f2] 27)).heap.size = w.heap.size + 1 + 1 := by simp
      rw [e] at q
      exact q
  have HT1 := hide hT1
  rw [← hw1]
  clear hw1 hT1
  go_loopw [11] (fun i wr => ∃ (k : Nat) (z : Int), i = .int .i64 z ∧ z = k ∧ k ≤ 2 ∧ Hid (1 ≤ k → (0 ≤ x.o ∧ x.o ≤ 8) ∧ 0 ≤ x.l ∧ x.l ≤ 4095) ∧ Hid (2 ≤ k → (0 ≤ y.o ∧ y.o ≤ 8) ∧ 0 ≤ y.l ∧ y.l ≤ 4095) ∧ Hid (Below w1.heap.size w1 wr)) (fun i _ => 2 - (intOf i).toNat)
  case atStart => exact ⟨0, 0, rfl, rfl, by omega, hide (fun h => absurd h (by omega)), hide (fun h => absurd h (by omega)), hide (Below.refl _ _)⟩
  case round =>
    obtain ⟨k, z, rfl, hz, hk, Hk1, Hk2, HB⟩ := hrel
    have hsr := HB.out.size
    have hT : TwoA w.heap.size x y wr := HT1.out.below HB.out
    have hBw : Below w.heap.size w wr := hB1.trans (HB.out.mono hB1.size)
    have h3 : k = 0 ∨ k = 1 ∨ k = 2 := by omega
    rcases h3 with rfl | rfl | rfl
    · obtain rfl : z = 0 := by omega
      have hz0 : w.heap.size < wr.heap.size := by omega
      have hz1 : w.heap.size + 1 < wr.heap.size := by omega
      have hz2 : w.heap.size + 1 + 1 < wr.heap.size := by omega
      have c0 := hT.s.at (j := 0) rfl
      have c1 := hT.s.at (j := 1) rfl
      have c2 := hT.s.at (j := 2) rfl
      have c3 := hT.s.at (j := 3) rfl
      have c4 := hT.s.at (j := 4) rfl
      have c5 := hT.s.at (j := 5) rfl
      have c6 := hT.s.at (j := 6) rfl
      have c7 := hT.s.at (j := 7) rfl
      clear hz hk hT
      by_cases h0 : x.o < 0
      · go_wp2_with (first | (go_at_call 4; refine (awake59_any _ (HTab.out.below (N := w.heap.size) (by first | with_reducible assumption | exact ab0) hg) (by first | omega | (simp; done) | (simp; omega))).mono ?_; rintro e w9 ⟨rfl, hb9⟩))
        all_goals go_ret
        all_goals exact ⟨rfl, ab0⟩
      by_cases h1 : 8 < x.o
      · have g1 : x.o > 8 := h1
        go_wp2_with (first | (go_at_call 4; refine (awake59_any _ (HTab.out.below (N := w.heap.size) (by first | with_reducible assumption | exact ab0) hg) (by first | omega | (simp; done) | (simp; omega))).mono ?_; rintro e w9 ⟨rfl, hb9⟩))
        all_goals go_ret
        all_goals exact ⟨rfl, ab0⟩
      have g1 : ¬ x.o > 8 := h1
      by_cases h2 : x.l < 0
      · go_wp2_with (first | (go_at_call 4; refine (awake59_any _ (HTab.out.below (N := w.heap.size) (by first | with_reducible assumption | exact ab0) hg) (by first | omega | (simp; done) | (simp; omega))).mono ?_; rintro e w9 ⟨rfl, hb9⟩))
        all_goals go_ret
        all_goals exact ⟨rfl, ab0⟩
      by_cases h3 : 4095 < x.l
      · have g3 : x.l > 4095 := h3
        go_wp2_with (first | (go_at_call 4; refine (awake59_any _ (HTab.out.below (N := w.heap.size) (by first | with_reducible assumption | exact ab0) hg) (by first | omega | (simp; done) | (simp; omega))).mono ?_; rintro e w9 ⟨rfl, hb9⟩))
        all_goals go_ret
        all_goals exact ⟨rfl, ab0⟩
      have g3 : ¬ x.l > 4095 := h3
      have hk1' : Hid (1 ≤ 1 → (0 ≤ x.o ∧ x.o ≤ 8) ∧ 0 ≤ x.l ∧ x.l ≤ 4095) := hide (fun _ => by omega)
      have hk2' : Hid (2 ≤ 1 → (0 ≤ y.o ∧ y.o ≤ 8) ∧ 0 ≤ y.l ∧ y.l ≤ 4095) := hide (fun h => absurd h (by omega))
      have HBw := hide hBw
      clear Hk1 Hk2 hBw
      go_wp2_with fail
      all_goals first
        | exact ⟨⟨1, 1, by go_num, rfl, by omega, hk1', hk2', hide (HB.out.trans (ab0))⟩, by simp [intOf]⟩
        | ((repeat apply Exists.intro); exact ⟨⟨1, 1, by go_num, rfl, by omega, hk1', hk2', hide (HB.out.trans (ab0))⟩, by simp [intOf]⟩)
    · obtain rfl : z = 1 := by omega
      have hz0 : w.heap.size < wr.heap.size := by omega
      have hz1 : w.heap.size + 1 < wr.heap.size := by omega
      have hz2 : w.heap.size + 1 + 1 < wr.heap.size := by omega
      have c0 := hT.s.at (j := 8) rfl
      have c1 := hT.s.at (j := 9) rfl
      have c2 := hT.s.at (j := 10) rfl
      have c3 := hT.s.at (j := 11) rfl
      have c4 := hT.s.at (j := 12) rfl
      have c5 := hT.s.at (j := 13) rfl
      have c6 := hT.s.at (j := 14) rfl
      have c7 := hT.s.at (j := 15) rfl
      clear hz hk hT
      by_cases h0 : y.o < 0
      · go_wp2_with (first | (go_at_call 4; refine (awake59_any _ (HTab.out.below (N := w.heap.size) (by first | with_reducible assumption | exact ab0) hg) (by first | omega | (simp; done) | (simp; omega))).mono ?_; rintro e w9 ⟨rfl, hb9⟩))
        all_goals go_ret
        all_goals exact ⟨rfl, ab0⟩
      by_cases h1 : 8 < y.o
      · have g1 : y.o > 8 := h1
        go_wp2_with (first | (go_at_call 4; refine (awake59_any _ (HTab.out.below (N := w.heap.size) (by first | with_reducible assumption | exact ab0) hg) (by first | omega | (simp; done) | (simp; omega))).mono ?_; rintro e w9 ⟨rfl, hb9⟩))
        all_goals go_ret
        all_goals exact ⟨rfl, ab0⟩
      have g1 : ¬ y.o > 8 := h1
      by_cases h2 : y.l < 0
      · go_wp2_with (first | (go_at_call 4; refine (awake59_any _ (HTab.out.below (N := w.heap.size) (by first | with_reducible assumption | exact ab0) hg) (by first | omega | (simp; done) | (simp; omega))).mono ?_; rintro e w9 ⟨rfl, hb9⟩))
        all_goals go_ret
        all_goals exact ⟨rfl, ab0⟩
      by_cases h3 : 4095 < y.l
      · have g3 : y.l > 4095 := h3
        go_wp2_with (first | (go_at_call 4; refine (awake59_any _ (HTab.out.below (N := w.heap.size) (by first | with_reducible assumption | exact ab0) hg) (by first | omega | (simp; done) | (simp; omega))).mono ?_; rintro e w9 ⟨rfl, hb9⟩))
        all_goals go_ret
        all_goals exact ⟨rfl, ab0⟩
      have g3 : ¬ y.l > 4095 := h3
      have hk1' : Hid (1 ≤ 2 → (0 ≤ x.o ∧ x.o ≤ 8) ∧ 0 ≤ x.l ∧ x.l ≤ 4095) := hide (fun _ => Hk1.out (by omega))
      have hk2' : Hid (2 ≤ 2 → (0 ≤ y.o ∧ y.o ≤ 8) ∧ 0 ≤ y.l ∧ y.l ≤ 4095) := hide (fun _ => by omega)
      have HBw := hide hBw
      clear Hk1 Hk2 hBw
      go_wp2_with fail
      all_goals first
        | exact ⟨⟨2, 2, by go_num, rfl, by omega, hk1', hk2', hide (HB.out.trans (ab0))⟩, by simp [intOf]⟩
        | ((repeat apply Exists.intro); exact ⟨⟨2, 2, by go_num, rfl, by omega, hk1', hk2', hide (HB.out.trans (ab0))⟩, by simp [intOf]⟩)
    · obtain rfl : z = 2 := by omega
      obtain ⟨-, x0, x1⟩ := Hk1.out (by omega)
      obtain ⟨-, y0, y1⟩ := Hk2.out (by omega)
      have hz0 : w.heap.size < wr.heap.size := by omega
      have hz1 : w.heap.size + 1 < wr.heap.size := by omega
      have hz2 : w.heap.size + 1 + 1 < wr.heap.size := by omega
      have c0 := hT.bx.at (j := 0) rfl
      have d0 := hT.yb.at (j := 0) rfl
      have c1 := hT.bx.at (j := 1) rfl
      have d1 := hT.yb.at (j := 1) rfl
      have c2 := hT.bx.at (j := 2) rfl
      have d2 := hT.yb.at (j := 2) rfl
      have c3 := hT.bx.at (j := 3) rfl
      have d3 := hT.yb.at (j := 3) rfl
      have c4 := hT.bx.at (j := 4) rfl
      have d4 := hT.yb.at (j := 4) rfl
      have c5 := hT.bx.at (j := 5) rfl
      have d5 := hT.yb.at (j := 5) rfl
      have c6 := hT.bx.at (j := 6) rfl
      have d6 := hT.yb.at (j := 6) rfl
      have c7 := hT.bx.at (j := 7) rfl
      have d7 := hT.yb.at (j := 7) rfl
      have hxy := fun W => ind_any x y W ⟨x0, x1⟩ ⟨y0, y1⟩
      have hyx := fun W => ind_any y x W ⟨y0, y1⟩ ⟨x0, x1⟩
      have hrr := fun W => rind_any x y W ⟨x0, x1⟩ ⟨y0, y1⟩
      rw [← ind_same] at hrr
      rw [← ind_comm] at hyx
      obtain ⟨r, hr⟩ : ∃ r, r = indB x y := ⟨_, rfl⟩
      rw [← hr] at hxy hyx hrr
      have Hxy := hide hxy
      have Hyx := hide hyx
      have Hrr := hide hrr
      clear hz hk Hk1 Hk2 hT hxy hyx hrr hr x0 x1 y0 y1
      go_wp2_with fail
      go_region_held3 (fun w' => (w'.cell? ⟨w.heap.size, 0, none⟩ = some (.int .i64 x.o) ∧ w'.cell? ⟨w.heap.size, 1, none⟩ = some (.int .i64 x.l) ∧ w'.cell? ⟨w.heap.size, 2, none⟩ = some (.int .i64 x.v) ∧ w'.cell? ⟨w.heap.size, 3, none⟩ = some (.int .u32 x.r) ∧ w'.cell? ⟨w.heap.size, 4, none⟩ = some (.int .u32 x.f) ∧ w'.cell? ⟨w.heap.size, 5, none⟩ = some (.int .i64 x.v2) ∧ w'.cell? ⟨w.heap.size, 6, none⟩ = some (.int .u32 x.r2) ∧ w'.cell? ⟨w.heap.size, 7, none⟩ = some (.int .u32 x.f2)) ∧ w'.cell? ⟨w.heap.size + 1, 0, none⟩ = some (.int .i64 y.o) ∧ w'.cell? ⟨w.heap.size + 1, 1, none⟩ = some (.int .i64 y.l) ∧ w'.cell? ⟨w.heap.size + 1, 2, none⟩ = some (.int .i64 y.v) ∧ w'.cell? ⟨w.heap.size + 1, 3, none⟩ = some (.int .u32 y.r) ∧ w'.cell? ⟨w.heap.size + 1, 4, none⟩ = some (.int .u32 y.f) ∧ w'.cell? ⟨w.heap.size + 1, 5, none⟩ = some (.int .i64 y.v2) ∧ w'.cell? ⟨w.heap.size + 1, 6, none⟩ = some (.int .u32 y.r2) ∧ w'.cell? ⟨w.heap.size + 1, 7, none⟩ = some (.int .u32 y.f2))
        (first | exact ⟨⟨by go_simp, by go_simp, by go_simp, by go_simp, by go_simp, by go_simp, by go_simp, by go_simp⟩, by go_simp, by go_simp, by go_simp, by go_simp, by go_simp, by go_simp, by go_simp, by go_simp⟩ | go_keep)
        (first
          | (go_at_call 4; refine (awake59_any _ (HTab.out.below (N := w.heap.size) (by first | with_reducible assumption | exact ab0) hg) (by first | omega | (simp; done) | (simp; omega))).mono ?_; rintro e w2 ⟨rfl, hb2'⟩; have hb2 : Below _ _ w2 := ab15; clear hb2'; obtain ⟨hcc2, hff2⟩ := bcell hb2; have hs2 := hb2.size; (try simp at hs2); have hz20 : w.heap.size < w2.heap.size := (by omega); have hz21 : w.heap.size + 1 < w2.heap.size := (by omega))
          | (go_at_call 5; with_reducible refine (Hxy.out _).mono ?_; rintro e w3 ⟨rfl, hb3'⟩; have hb3 : Below _ _ w3 := ab13; clear hb3'; obtain ⟨hcc3, hff3⟩ := bcell hb3; have hs3 := hb3.size; (try simp at hs3); have hz30 : w.heap.size < w3.heap.size := (by omega); have hz31 : w.heap.size + 1 < w3.heap.size := (by omega))
          | (go_at_call 5; with_reducible refine (Hyx.out _).mono ?_; rintro e w4 ⟨rfl, hb4'⟩; have hb4 : Below _ _ w4 := ab8; clear hb4'; obtain ⟨hcc4, hff4⟩ := bcell hb4; have hs4 := hb4.size; (try simp at hs4); have hz40 : w.heap.size < w4.heap.size := (by omega); have hz41 : w.heap.size + 1 < w4.heap.size := (by omega))
          | (go_at_call 6; with_reducible refine (Hrr.out _).mono ?_; rintro e w5 ⟨rfl, hb5'⟩; have hb5 : Below _ _ w5 := ab7; clear hb5'; obtain ⟨hcc5, hff5⟩ := bcell hb5; have hs5 := hb5.size; (try simp at hs5); have hz50 : w.heap.size < w5.heap.size := (by omega); have hz51 : w.heap.size + 1 < w5.heap.size := (by omega)))
      all_goals go_wp2
      all_goals go_ret
      all_goals exact ⟨by first | rfl | (simp; done), ab0⟩
end Go.Proofs.YtfdndkgjmmeafaaGreatDoor

