/- Package revive: right, Seqs, decided, records, swaps, clocks. -/
import Derived.Test.YtbomhhkknopdpaaGreatDoorR9
import Derived.Test.YtbomhhkknopdpaaGreatDoorR6
namespace Go.Proofs.YtbomhhkknopdpaaGreatDoor
set_option linter.unusedSimpArgs false
set_option linter.unusedVariables false
open Go.RowKit
set_option maxRecDepth 100000 in
theorem vright_ok (T C B : Int) (b n cap : Nat) (w : World) (hv : Valid T C B) (hs : Sizes w) (hn : fromL T C B 7 = (n : Int)) :
    Calls Tryz.prog 40 #[(.agg #[.int .i64 T, .int .i64 C, .int .i64 B]), .slice (some ⟨b, 0, none⟩) n cap] w fun e w' => e = .returned (.bool true) ∧ Below w.heap.size w w' := by
  have hpos := hs.pos
  have HN := hide hn
  clear hn
  go_enter Tryz.func40, Tryz.ntmps40
  go_wp2_with (first
    | (go_at_call 12; refine (check_ok T C B _ hv (hs.below (by repeat' (first | with_reducible exact Below.refl _ _ | with_reducible assumption | with_reducible refine Below.alloc ?_ ?_ _ | with_reducible refine Below.setCell ?_ ?_ _ | with_reducible refine Below.drew ?_ | with_reducible refine below_drewN ?_ _ | with_reducible refine Below.trans ?_ (Below.mono (by with_reducible assumption) ?_) | omega | (simp <;> omega))))).mono ?_; rintro e w1 ⟨rfl, hb1⟩; obtain ⟨hcc1, hff1⟩ := bcell hb1; have hs1 := hb1.size; (try simp at hs1); have hz1 : w.heap.size < w1.heap.size := (by omega); have hq1 : 0 < w1.heap.size := (by omega))
    | (go_at_call 21; refine (size_ok T C B _ hv (hs.below (by repeat' (first | with_reducible exact Below.refl _ _ | with_reducible assumption | with_reducible refine Below.alloc ?_ ?_ _ | with_reducible refine Below.setCell ?_ ?_ _ | with_reducible refine Below.drew ?_ | with_reducible refine below_drewN ?_ _ | with_reducible refine Below.trans ?_ (Below.mono (by with_reducible assumption) ?_) | omega | (simp <;> omega))))).mono ?_; rintro e w2 ⟨rfl, hb2⟩; rw [HN.out]; obtain ⟨hcc2, hff2⟩ := bcell hb2; have hs2 := hb2.size; (try simp at hs2)))
  go_ret
  exact ⟨rfl, (by repeat' (first | with_reducible exact Below.refl _ _ | with_reducible assumption | with_reducible refine Below.alloc ?_ ?_ _ | with_reducible refine Below.setCell ?_ ?_ _ | with_reducible refine Below.drew ?_ | with_reducible refine below_drewN ?_ _ | with_reducible refine Below.trans ?_ (Below.mono (by with_reducible assumption) ?_) | omega | (simp <;> omega)))⟩
/-- The next sequence numbers of the first k slots. -/
def seqsTo (T C B : Int) (ws : List W3) (k : Nat) : List Int := (List.range k).map (fun i : Nat => (ws.getD (atL T C B 4 (i : Nat) 0).toNat z3).r + 1)
theorem seqsTo_succ (T C B : Int) (ws : List W3) (k : Nat) : seqsTo T C B ws (k + 1) = seqsTo T C B ws k ++ [(ws.getD (atL T C B 4 (k : Nat) 0).toNat z3).r + 1] := by unfold seqsTo; rw [List.range_succ, List.map_append]; rfl
theorem seqsTo_len (T C B : Int) (ws : List W3) (k : Nat) : (seqsTo T C B ws k).length = k := by unfold seqsTo; simp
theorem info_int : (Tryz.prog.info? 3).map (fun i => (i.zero, i.size, i.bytes)) = some (some (.int .i64 0), 1, 8) := by kernel_rfl
set_option maxHeartbeats 2000000 in
set_option maxRecDepth 100000 in
theorem seqs_ok (T C B : Int) (b n cap : Nat) (ws : List W3) (w : World) (hv : Valid T C B) (hs : Sizes w) (hM : Mem b ws w) (hl : ws.length = n) (hnm : n ≤ 1000000) (hok : ∀ x ∈ ws, x.ok) (hn : fromL T C B 7 = (n : Int)) :
    Calls Tryz.prog 14 #[(.agg #[.int .i64 T, .int .i64 C, .int .i64 B]), .slice (some ⟨b, 0, none⟩) n cap] w (LocsPost (seqsTo T C B ws T.toNat) w) := by
  have hp := hs.pos
  have hb := hM.2.2
  obtain ⟨f1, f2, -, -, f5, f6⟩ := hv.1
  obtain ⟨M, rfl⟩ : ∃ M : Nat, T = (M : Int) := ⟨T.toNat, by omega⟩
  rw [Int.toNat_natCast]
  obtain ⟨i0, hi, iz0, iz1, iz2⟩ := info_parts info_int
  have hvr := fun W hs' => vright_ok M C B b n cap W hv hs' hn
  have Hvr := hide hvr
  have HM := hide hM
  have Hl := hide hl
  have Hok := hide hok
  have HN := hide hn
  clear hvr hM hl hok hn
  go_enter Tryz.func14, Tryz.ntmps14
  go_wp2_with (first
    | (go_at_call 40; refine (Hvr.out _ (hs.below (by repeat' (first | with_reducible exact Below.refl _ _ | with_reducible assumption | with_reducible refine Below.alloc ?_ ?_ _ | with_reducible refine Below.setCell ?_ ?_ _ | with_reducible refine Below.drew ?_ | with_reducible refine below_drewN ?_ _ | with_reducible refine Below.trans ?_ (Below.mono (by with_reducible assumption) ?_) | omega | (simp <;> omega))))).mono ?_; rintro e w1 ⟨rfl, hb1⟩; obtain ⟨hcc1, hff1⟩ := bcell hb1; have hs1 := hb1.size; (try simp at hs1); have hz1 : w.heap.size < w1.heap.size := (by omega)))
  have e0 : w1.cell? ⟨w.heap.size, 0, none⟩ = some (.int .i64 M) := by go_simp
  have e1 : w1.cell? ⟨w.heap.size, 1, none⟩ = some (.int .i64 C) := by go_simp
  have e2 : w1.cell? ⟨w.heap.size, 2, none⟩ = some (.int .i64 B) := by go_simp
  have hB1 : Below w.heap.size w w1 := (by repeat' (first | with_reducible exact Below.refl _ _ | with_reducible assumption | with_reducible refine Below.alloc ?_ ?_ _ | with_reducible refine Below.setCell ?_ ?_ _ | with_reducible refine Below.drew ?_ | with_reducible refine below_drewN ?_ _ | with_reducible refine Below.trans ?_ (Below.mono (by with_reducible assumption) ?_) | omega | (simp <;> omega)))
  have HS := hide (hs.below hB1)
  have HM1 := hide (HM.out.grow hB1)
  have hv1 : b < w1.heap.size := by omega
  clear hcc1 hff1 hb1
  go_loopw [6, 5] (fun i v wr => ∃ k : Nat, i = .int .i64 ((k : Int) + 1) ∧ k ≤ M ∧ wr.ownsRow w1.heap.size 3 1 v k ((seqsTo M C B ws k).map (Value.int .i64)) ∧ Below w1.heap.size w1 wr) (fun i _ _ => M + 1 - (intOf i).toNat)
  case atStart => exact ⟨0, by go_num, by omega, World.ownsRow_nil _ _ _ _, (by repeat' (first | with_reducible exact Below.refl _ _ | with_reducible assumption | with_reducible refine Below.alloc ?_ ?_ _ | with_reducible refine Below.setCell ?_ ?_ _ | with_reducible refine Below.drew ?_ | with_reducible refine below_drewN ?_ _ | with_reducible refine Below.trans ?_ (Below.mono (by with_reducible assumption) ?_) | omega | (simp <;> omega)))⟩
  case round =>
    obtain ⟨k, rfl, hk, hown, hB⟩ := hrel
    obtain ⟨A0, cap0, rfl, hcp0, hbl0⟩ := own_slice hown
    have hsz := hB.size
    have f0 := (hB.cell (p := ⟨w.heap.size, 0, none⟩) hz1).trans e0
    have f1 := (hB.cell (p := ⟨w.heap.size, 1, none⟩) hz1).trans e1
    have f2 := (hB.cell (p := ⟨w.heap.size, 2, none⟩) hz1).trans e2
    have HSr := hide (HS.out.below hB)
    have HMr := hide (HM1.out.grow hB)
    by_cases hlt : k < M
    · have hle : (k : Int) + 1 ≤ (M : Int) := by omega
      have hst := seqsTo_succ M C B ws k
      have hin := atL_in M C B hv 4 (by decide) (k : Nat) 0 (by omega) (by show ((k : Nat) : Int) < (M : Int); omega) (by decide) (by decide)
      rw [HN.out] at hin
      have hsl := fun W hs' => slot_ok M C B ((k : Int) + 1) W hv hs' (by omega) (by omega)
      rw [show (k : Int) + 1 - 1 = (k : Nat) by omega] at hsl
      obtain ⟨p, hpp⟩ : ∃ p : Nat, atL M C B 4 (k : Nat) 0 = (p : Int) := ⟨(atL M C B 4 (k : Nat) 0).toNat, by omega⟩
      rw [hpp] at hsl hst hin
      rw [Int.toNat_natCast] at hst
      obtain ⟨hin0, hin1⟩ := hin
      obtain ⟨x, hx⟩ : ∃ x, ws[p]? = some x := ⟨_, List.getElem?_eq_getElem (by rw [Hl.out]; omega)⟩
      have hx0 : ws.getD p z3 = x := by rw [List.getD_eq_getElem?_getD, hx]; rfl
      rw [hx0] at hst
      obtain ⟨-, -, hx2, hx3, -, -⟩ := Hok.out x (List.mem_of_getElem? hx)
      have x1 := HMr.out.w1 hx
      have hvr : b < wr.heap.size := by omega
      have hwx : wrap64 x.r = x.r := by unfold wrap64; omega
      have hwx1 : IntKind.i64.wrap (x.r + 1) = x.r + 1 := IntWalk.i64_in _ (by omega)
      have Hsl := hide hsl
      have Hst := hide hst
      clear hsl hst hpp hx hx0
      go_wp2_with (first
        | (go_at_call 36; refine (Hsl.out _ (HSr.out.below (by repeat' (first | with_reducible exact Below.refl _ _ | with_reducible assumption | with_reducible refine Below.alloc ?_ ?_ _ | with_reducible refine Below.setCell ?_ ?_ _ | with_reducible refine Below.drew ?_ | with_reducible refine below_drewN ?_ _ | with_reducible refine Below.trans ?_ (Below.mono (by with_reducible assumption) ?_) | omega | (simp <;> omega))))).mono ?_; rintro e' w5 ⟨rfl, hb5⟩; obtain ⟨hcc5, hff5⟩ := bcell hb5; have hs5 := hb5.size; (try simp at hs5))
        | (at_builtin; refine wpList_append_rd rfl _ _ 44 rfl w1.heap.size 3 i0 _ 1 8 Tryz.underlying44 hi iz0 iz1 iz2 rfl (by decide) (.slice A0 k cap0) k ((seqsTo M C B ws k).map (Value.int .i64)) rfl (own_below hown (by repeat' (first | with_reducible exact Below.refl _ _ | with_reducible assumption | with_reducible refine Below.alloc ?_ ?_ _ | with_reducible refine Below.setCell ?_ ?_ _ | with_reducible refine Below.drew ?_ | with_reducible refine below_drewN ?_ _ | with_reducible refine Below.trans ?_ (Below.mono (by with_reducible assumption) ?_) | omega | (simp <;> omega)))) (some ⟨w5.heap.size, 0, none⟩) 1 1 [.int .i64 (x.r + 1)] rfl _ (rd_one (by go_simp)) (by simp [Value.oneCell']) (by unfold maxLen; omega) (by omega) (by simp; omega) w1.heap.size w1 (by repeat' (first | with_reducible exact Below.refl _ _ | with_reducible assumption | with_reducible refine Below.alloc ?_ ?_ _ | with_reducible refine Below.setCell ?_ ?_ _ | with_reducible refine Below.drew ?_ | with_reducible refine below_drewN ?_ _ | with_reducible refine Below.trans ?_ (Below.mono (by with_reducible assumption) ?_) | omega | (simp <;> omega))) (Nat.le_refl _) ?_; intro v' w6 hown6 hb6 hsz6))
      exact ⟨⟨k + 1, by go_num, by omega, by rw [Hst.out, List.map_append]; exact hown6, (by repeat' (first | with_reducible exact Below.refl _ _ | with_reducible assumption | with_reducible refine Below.alloc ?_ ?_ _ | with_reducible refine Below.setCell ?_ ?_ _ | with_reducible refine Below.drew ?_ | with_reducible refine below_drewN ?_ _ | with_reducible refine Below.trans ?_ (Below.mono (by with_reducible assumption) ?_) | omega | (simp <;> omega)))⟩, by simp [intOf]; omega⟩
    · obtain rfl : M = k := by omega
      obtain ⟨A, cap', e1', hr⟩ := own_rd' hown
      injection e1' with e1' e2' e3'
      subst e1' e3'
      have Hr := hide hr
      clear hr hown
      go_wp2_with fail
      go_ret
      have hlen : (seqsTo M C B ws M).length = M := seqsTo_len _ _ _ _ _
      exact ⟨A0, cap0, by rw [hlen]; rfl, by rw [hlen]; exact Hr.out, fun b off e => by have := hbl0 b off e; omega, (by repeat' (first | with_reducible exact Below.refl _ _ | with_reducible assumption | with_reducible refine Below.alloc ?_ ?_ _ | with_reducible refine Below.setCell ?_ ?_ _ | with_reducible refine Below.drew ?_ | with_reducible refine below_drewN ?_ _ | with_reducible refine Below.trans ?_ (Below.mono (by with_reducible assumption) ?_) | omega | (simp <;> omega)))⟩
def decidedW (x : W3) : Bool := (x.v == 1 || x.v == 2) && (decide (x.r ≤ 16777215) && x.f == 0)
set_option maxRecDepth 100000 in
theorem decided_any (x : W3) (w : World) : Calls Tryz.prog 69 #[(.agg #[.int .i64 (x).v, .int .u32 (x).r, .int .u32 (x).f])] w fun e w' => e = .returned (.bool (decidedW x)) ∧ Below w.heap.size w w' := by
  unfold decidedW
  cases h1 : (x.v == 1)
  all_goals cases h2 : (x.v == 2)
  all_goals cases h3 : (decide (x.r ≤ 16777215))
  all_goals go_enter Tryz.func69, Tryz.ntmps69
  all_goals go_wp2_with fail
  all_goals go_ret
  all_goals exact ⟨rfl, (by repeat' (first | with_reducible exact Below.refl _ _ | with_reducible assumption | with_reducible refine Below.alloc ?_ ?_ _ | with_reducible refine Below.setCell ?_ ?_ _ | with_reducible refine Below.drew ?_ | with_reducible refine below_drewN ?_ _ | with_reducible refine Below.trans ?_ (Below.mono (by with_reducible assumption) ?_) | omega | (simp <;> omega)))⟩
end Go.Proofs.YtbomhhkknopdpaaGreatDoor
