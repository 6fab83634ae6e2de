/- Package desc: Read. -/
import Derived.Test.YtbomhhkknopdpaaGreatDoorD2
import Derived.Test.YtbomhhkknopdpaaGreatDoorD3
import Derived.Test.YtbomhhkknopdpaaGreatDoorBx
import Derived.Deep.DeepCutAuto
namespace Go.Proofs.YtbomhhkknopdpaaGreatDoor
set_option linter.unusedSimpArgs false
set_option linter.unusedVariables false
open Go.RowKit
theorem fromL_end (T C B : Int) : fromL T C B 7 = fromL T C B 4 + 104 * T + (if 0 < B then 8 else 0) + 32 * B ∧ fromL T C B 6 = fromL T C B 4 + 104 * T + (if 0 < B then 8 else 0) := by
  have a6 : fromL T C B 7 = fromL T C B 6 + 32 * B := rfl
  have a5 : fromL T C B 6 = fromL T C B 5 + (if 0 < B then 8 else 0) := rfl
  have a4 : fromL T C B 5 = fromL T C B 4 + 104 * T := rfl
  generalize (if 0 < B then (8 : Int) else 0) = X at *
  omega
theorem place_in (T C B who : Int) (hv : Valid T C B) (hn : placeN T C B who ≠ 0) : ∃ p : Nat, placeL T C B who = p ∧ (p : Int) + 2 + 3 * placeN T C B who ≤ fromL T C B 7 ∧ placeN T C B who ≤ 32 ∧ 0 < placeN T C B who := by
  obtain ⟨e7, e6⟩ := fromL_end T C B
  obtain ⟨f1, f2, f3, f4, f5, f6⟩ := hv.1
  have g4 := (from_le T C B hv.1 4).1
  have hx : (if 0 < B then (8 : Int) else 0) ≥ 0 := by split <;> omega
  unfold placeN at hn ⊢
  unfold placeL
  by_cases hneg : placeA T C B who < 0
  · rw [if_pos hneg] at hn
    exact absurd rfl hn
  simp only [if_neg hneg] at hn ⊢
  refine ⟨(placeA T C B who).toNat, by omega, ?_, by split <;> omega, by split <;> omega⟩
  rw [Int.toNat_of_nonneg (by omega)]
  unfold placeA at hneg ⊢
  by_cases h9 : 9 ≤ who
  · simp only [if_pos h9] at hneg ⊢
    unfold atL at hneg ⊢
    split
    · rename_i h
      rw [show sizeL 6 = 32 from rfl, e7, e6]
      have := h.2
      simp only [manyL, List.getD_cons_zero, List.getD_cons_succ] at this
      omega
    · rename_i h
      rw [if_neg h] at hneg
      omega
  · simp only [if_neg h9] at hneg ⊢
    unfold atL at hneg ⊢
    split
    · rename_i h
      rw [show sizeL 4 = 104 from rfl, e7]
      have := h.2
      simp only [manyL, List.getD_cons_zero, List.getD_cons_succ] at this
      omega
    · rename_i h
      rw [if_neg h] at hneg
      omega
/-- The first k entries behind place p. -/
def entsL (ws : List W3) (p : Nat) : Nat → Option (List En)
  | 0 => some []
  | k + 1 => match entsL ws p k with
    | none => none
    | some es => if (unpackL (ws.getD (p + 2 + 3 * k) z3) (ws.getD (p + 2 + 3 * k + 1) z3) (ws.getD (p + 2 + 3 * k + 2) z3)).2 = true then some (es ++ [(unpackL (ws.getD (p + 2 + 3 * k) z3) (ws.getD (p + 2 + 3 * k + 1) z3) (ws.getD (p + 2 + 3 * k + 2) z3)).1]) else none
def headOK (s c : W3) (most : Int) : Bool := decide (0 ≤ s.v) && decide (s.v ≤ 3) && (s.f == 0) && decide (1 ≤ c.v) && decide (c.v ≤ most) && eq3 c ⟨c.v, 0, 0⟩
def readL (T C B : Int) (ws : List W3) (who : Int) : Option (Int × Int × List En) :=
  if placeN T C B who = 0 then none
  else if headOK (ws.getD (placeL T C B who).toNat z3) (ws.getD ((placeL T C B who).toNat + 1) z3) (placeN T C B who) = true then
    match entsL ws (placeL T C B who).toNat (ws.getD ((placeL T C B who).toNat + 1) z3).v.toNat with
    | none => none
    | some es => if checkD T C B who (ws.getD (placeL T C B who).toNat z3).r (ws.getD (placeL T C B who).toNat z3).v es = 0 then some ((ws.getD (placeL T C B who).toNat z3).r, (ws.getD (placeL T C B who).toNat z3).v, es) else none
  else none
/-- What Read answers. -/
def ReadPost (who : Int) (r : Option (Int × Int × List En)) (w : World) (e : Ending) (w' : World) : Prop :=
  match r with
  | none => ∃ er : Int, er ≠ 0 ∧ e = .returned (.tuple #[.agg #[.int .i64 0, .int .i64 0, .int .i64 0, .slice none 0 0], .int .i64 er]) ∧ Below w.heap.size w w'
  | some (seq, st, es) => ∃ (A : Option Addr) (cap : Nat), e = .returned (.tuple #[.agg #[.int .i64 who, .int .i64 seq, .int .i64 st, .slice A es.length cap], .int .i64 0]) ∧ Rd w' w'.heap.size 6 A es.length (es.flatMap ec) ∧ es.length ≤ cap ∧ Below w.heap.size w w'

set_option maxHeartbeats 4000000 in
set_option maxRecDepth 100000 in
theorem read_p (T C B who P : Int) (b n cap : Nat) (ws : List W3) (w : World) (hv : Valid T C B) (hs : Sizes w) (h0 : -1000 ≤ who) (h1 : who ≤ 1000) (hM : Mem b ws w) (hl : ws.length = n) (hn : fromL T C B 7 ≤ n) (hP : placeL T C B who = P) (hN : placeN T C B who = 0) :
    Calls Tryz.prog 53 #[(.agg #[.int .i64 T, .int .i64 C, .int .i64 B]), .slice (some ⟨b, 0, none⟩) n cap, .int .i64 who] w fun e w' => e = .returned (.tuple #[.agg #[.int .i64 0, .int .i64 0, .int .i64 0, .slice none 0 0], .int .i64 3]) ∧ Below w.heap.size w w' := by
  have hp := hs.pos
  have hb := hM.2.2
  have HP := hide hP
  have HN := hide hN
  have hnn : ¬ ((n : Int) < fromL T C B 7) := by omega
  have hb' : b < w.heap.size + 1 := by omega
  have hb'' : b < w.heap.size + 1 + 1 := by omega
  clear hP hN hM
  go_enter Tryz.func53, Tryz.ntmps53
  go_wp2_with (first
    | (go_at_call 12; refine (check_ok T C B _ hv (hs.below (by repeat' (first | with_reducible exact Below.refl _ _ | with_reducible assumption | with_reducible refine Below.alloc ?_ ?_ _ | with_reducible refine Below.setCell ?_ ?_ _ | with_reducible refine Below.drew ?_ | with_reducible refine below_drewN ?_ _ | with_reducible refine Below.trans ?_ (Below.mono (by with_reducible assumption) ?_) | omega | (simp <;> omega))))).mono ?_; rintro e w1 ⟨rfl, hb1⟩; obtain ⟨hcc1, hff1⟩ := bcell hb1; have hs1 := hb1.size; (try simp at hs1); have hz1 : w.heap.size < w1.heap.size := (by omega); have hy1 : w.heap.size + 1 < w1.heap.size := (by omega); have hq1 : 0 < w1.heap.size := (by omega); have hv1 : b < w1.heap.size := (by omega))
    | (go_at_call 21; refine (size_ok T C B _ hv (hs.below (by repeat' (first | with_reducible exact Below.refl _ _ | with_reducible assumption | with_reducible refine Below.alloc ?_ ?_ _ | with_reducible refine Below.setCell ?_ ?_ _ | with_reducible refine Below.drew ?_ | with_reducible refine below_drewN ?_ _ | with_reducible refine Below.trans ?_ (Below.mono (by with_reducible assumption) ?_) | omega | (simp <;> omega))))).mono ?_; rintro e w2 ⟨rfl, hb2⟩; obtain ⟨hcc2, hff2⟩ := bcell hb2; have hs2 := hb2.size; (try simp at hs2); have hz2 : w.heap.size < w2.heap.size := (by omega); have hy2 : w.heap.size + 1 < w2.heap.size := (by omega); have hq2 : 0 < w2.heap.size := (by omega); have hv2 : b < w2.heap.size := (by omega))
    | (go_at_call 19; refine (place_any T C B who _ hv (hs.below (by repeat' (first | with_reducible exact Below.refl _ _ | with_reducible assumption | with_reducible refine Below.alloc ?_ ?_ _ | with_reducible refine Below.setCell ?_ ?_ _ | with_reducible refine Below.drew ?_ | with_reducible refine below_drewN ?_ _ | with_reducible refine Below.trans ?_ (Below.mono (by with_reducible assumption) ?_) | omega | (simp <;> omega)))) h0 h1).mono ?_; rintro e w3 ⟨rfl, hb3⟩; rw [HP.out, HN.out]; obtain ⟨hcc3, hff3⟩ := bcell hb3; have hs3 := hb3.size; (try simp at hs3); have hz3 : w.heap.size < w3.heap.size := (by omega); have hy3 : w.heap.size + 1 < w3.heap.size := (by omega); have hq3 : 0 < w3.heap.size := (by omega); have hv3 : b < w3.heap.size := (by omega)))
  have r0 : w3.cell? ⟨w.heap.size + 1, 0, none⟩ = some (.int .i64 0) := by go_simp
  have r1 : w3.cell? ⟨w.heap.size + 1, 1, none⟩ = some (.int .i64 0) := by go_simp
  have r2 : w3.cell? ⟨w.heap.size + 1, 2, none⟩ = some (.int .i64 0) := by go_simp
  have r3 : w3.cell? ⟨w.heap.size + 1, 3, none⟩ = some (.slice none 0 0) := by go_simp
  exact bodyPost_ret (v := .tuple #[.agg #[.int .i64 0, .int .i64 0, .int .i64 0, .slice none 0 0], .int .i64 3]) (by simp [results, Tryz.results53, go_sem, r0, r1, r2, r3]) rfl ⟨rfl, (by repeat' (first | with_reducible exact Below.refl _ _ | with_reducible assumption | with_reducible refine Below.alloc ?_ ?_ _ | with_reducible refine Below.setCell ?_ ?_ _ | with_reducible refine Below.drew ?_ | with_reducible refine below_drewN ?_ _ | with_reducible refine Below.trans ?_ (Below.mono (by with_reducible assumption) ?_) | omega | (simp <;> omega)))⟩
end Go.Proofs.YtbomhhkknopdpaaGreatDoor
