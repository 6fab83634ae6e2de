/- The example of chapter 56. -/
import Derived.Test.YtbomhhkknopdpaaGreatDoorM5
import Derived.Test.YtbomhhkknopdpaaGreatDoorMl
import Derived.Test.YtbomhhkknopdpaaGreatDoorRa
import Derived.Test.YtbomhhkknopdpaaGreatDoorRq
import Derived.Test.YtbomhhkknopdpaaGreatDoorR9
import Derived.Test.YtbomhhkknopdpaaGreatDoorR10
namespace Go.Proofs.YtbomhhkknopdpaaGreatDoor
set_option linter.unusedSimpArgs false
set_option linter.unusedVariables false
open Go.RowKit
def awArg (g : Nat) : MemArg := ⟨some ⟨g + 1 + 1 + 1, 0, none⟩, 1, [⟨0, 3, [0], [⟨5, 2, 0⟩], [9], true⟩], some ⟨g + 1 + 1 + 1 + 1, 0, none⟩, 1, [⟨5, 2, 1, 3⟩], some ⟨g + 1 + 1 + 1 + 1 + 1, 0, none⟩, 1, [(3, 7, 0)], none, 0, [], none, 0, []⟩
theorem awArg_words (g : Nat) : (awArg g).words = awL := rfl
theorem awArg_fits (g : Nat) : (awArg g).fits = true := rfl
theorem awArg_ok (g : Nat) : (awArg g).ok := by
  refine ⟨fun s hs => ?_, fun c hc => ?_, fun r hr => ?_, fun x hx => ?_, fun a ha => ?_, (by show 1 ≤ maxLen; decide), (by show 1 ≤ maxLen; decide), (by show 1 ≤ maxLen; decide), Nat.zero_le _, Nat.zero_le _⟩
  · obtain rfl := List.mem_singleton.1 hs
    exact ⟨by decide, by decide, by decide, fun x hx => by
      obtain rfl := List.mem_singleton.1 hx
      exact ⟨by decide, by decide, by decide, by decide, by decide, by decide⟩, fun v hv => by
      obtain rfl := List.mem_singleton.1 hv
      exact ⟨by decide, by decide⟩, by decide, by decide, by decide⟩
  · obtain rfl := List.mem_singleton.1 hc
    exact ⟨⟨by decide, by decide⟩, ⟨by decide, by decide⟩, ⟨by decide, by decide⟩, ⟨by decide, by decide⟩⟩
  · obtain rfl := List.mem_singleton.1 hr
    exact ⟨⟨by decide, by decide⟩, ⟨by decide, by decide⟩, ⟨by decide, by decide⟩⟩
  · cases hx
  · cases ha
theorem rd_list {w : World} {b n size : Nat} {xs : List Value} (hl : xs.length = n * size) (hb : b < w.heap.size) (h : ∀ j u, xs[j]? = some u → w.cell? ⟨b, j, none⟩ = some u) : Rd w w.heap.size size (some ⟨b, 0, none⟩) n xs := ⟨hl, fun _ => ⟨b, 0, rfl, hb, fun j u hu => by rw [Nat.zero_add]; exact h j u hu⟩⟩
/-- Cells of a block that are listed. -/
def At (w : World) (b : Nat) (xs : List Value) : Prop := ∀ j u, xs[j]? = some u → w.cell? ⟨b, j, none⟩ = some u
theorem At.one {w : World} {b : Nat} {v : Value} (h : w.cell? ⟨b, 0, none⟩ = some v) : At w b [v] := fun j u hu => by
  match j, hu with
  | 0, hu => injection hu with hu; subst hu; exact h
  | j + 1, hu => simp at hu
theorem At.cons {w : World} {b : Nat} {v : Value} {xs : List Value} (h : w.cell? ⟨b, xs.length, none⟩ = some v) (hx : At w b xs) : At w b (xs ++ [v]) := fun j u hu => by
  rw [List.getElem?_append] at hu
  split at hu
  · exact hx j u hu
  · rename_i hj
    obtain rfl : j = xs.length := by
      have := (List.getElem?_eq_some_iff.1 hu).1
      simp at this
      omega
    simp at hu
    exact hu ▸ h
theorem aw_in {w : World} {g : Nat} (hg : g + 6 ≤ w.heap.size) (h0 : At w g [.int .u8 0]) (h1 : At w (g + 1) [.int .i64 5, .int .u32 2, .int .u32 0]) (h2 : At w (g + 1 + 1) [.int .i64 9])
    (h3 : At w (g + 1 + 1 + 1) [.int .u8 0, .int .u16 3, .slice (some ⟨g, 0, none⟩) 1 1, .slice (some ⟨g + 1, 0, none⟩) 1 1, .slice (some ⟨g + 1 + 1, 0, none⟩) 1 1, .bool true])
    (h4 : At w (g + 1 + 1 + 1 + 1) [.int .i64 5, .int .u8 2, .int .u8 1, .int .u16 3]) (h5 : At w (g + 1 + 1 + 1 + 1 + 1) [.int .i64 3, .int .i64 7, .int .i64 0]) : (awArg g).In w w.heap.size := by
  refine ⟨fun i s his => ?_, rd_list rfl (by omega) h4, rd_list rfl (by omega) h5, Rd.nil _ _ _ _, Rd.nil _ _ _ _⟩
  match i, his with
  | 0, his =>
    injection his with his
    subst his
    refine ⟨g + 1 + 1 + 1, 0, rfl, by omega, _, ⟨some ⟨g, 0, none⟩, 1, some ⟨g + 1, 0, none⟩, 1, some ⟨g + 1 + 1, 0, none⟩, 1, rfl, rd_list rfl (by omega) h0, rd_list rfl (by omega) h1, rd_list rfl (by omega) h2⟩, fun j u hu => ?_⟩
    rw [Nat.zero_mul, Nat.zero_add]
    (try rw [Nat.zero_add])
    exact h3 j u hu
  | i + 1, his => simp [awArg] at his
set_option maxHeartbeats 4000000 in
set_option maxRecDepth 100000 in
theorem awake_ok (w : World) (hs : Sizes w) : Calls Tryz.prog 7 #[] w fun e w' => e = .returned (.bool true) ∧ Below w.heap.size w w' := by
  have hp := hs.pos
  have hok : ∀ x ∈ awL, x.ok := (awArg_words 0) ▸ MemArg.ok_words (awArg_ok 0)
  have hlen : awL.length = 448 := (awArg_words 0) ▸ (awArg 0).len_words
  have hsq : (seqsTo 3 8 2 awL 3).length = 3 := seqsTo_len _ _ _ _ _
  have Haw := hide aw_recs
  have Hrep := hide aw_rep
  have Hsq := hide aw_seqs
  have Hcell := hide aw_cell
  go_enter Tryz.func7, Tryz.ntmps7
  go_wp2_with (first
    | (go_at_call 5; refine (plan_ok _).mono ?_; rintro e w1 ⟨rfl, hb1⟩; obtain ⟨hcc1, hff1⟩ := bcell hb1; have hs1 := hb1.size; (try simp at hs1); have hz1 : w.heap.size ≤ w1.heap.size := (by omega)))
  refine (make_yes (awArg (w1.heap.size + 1)) _ ?_ rfl ?_ (awArg_ok _)).mono ?_
  · exact hs.below (by repeat' (first | with_reducible exact Below.refl _ _ | with_reducible assumption | with_reducible refine Below.alloc ?_ ?_ _ | with_reducible refine Below.setCell ?_ ?_ _ | with_reducible refine Below.drew ?_ | with_reducible refine below_drewN ?_ _ | with_reducible refine Below.trans ?_ (Below.mono (by with_reducible assumption) ?_) | omega | (simp <;> omega)))
  · exact aw_in (by simp) (At.one (by go_simp)) (((At.one (by go_simp)).cons (by go_simp)).cons (by go_simp)) (At.one (by go_simp))
      ((((((At.one (by go_simp)).cons (by go_simp)).cons (by go_simp)).cons (by go_simp)).cons (by go_simp)).cons (by go_simp))
      ((((At.one (by go_simp)).cons (by go_simp)).cons (by go_simp)).cons (by go_simp)) (((At.one (by go_simp)).cons (by go_simp)).cons (by go_simp))
  rw [awArg_words]
  rintro e w2 ⟨G, rfl, hM, hG, hb2⟩
  have hB2 : Below w.heap.size w w2 := (by repeat' (first | with_reducible exact Below.refl _ _ | with_reducible assumption | with_reducible refine Below.alloc ?_ ?_ _ | with_reducible refine Below.setCell ?_ ?_ _ | with_reducible refine Below.drew ?_ | with_reducible refine below_drewN ?_ _ | with_reducible refine Below.trans ?_ (Below.mono (by with_reducible assumption) ?_) | omega | (simp <;> omega)))
  have l0 : w2.cell? ⟨w1.heap.size, 0, none⟩ = some (.int .i64 3) := (hb2.cell (p := ⟨w1.heap.size, 0, none⟩) (by simp; omega)).trans (by go_simp)
  have l1 : w2.cell? ⟨w1.heap.size, 1, none⟩ = some (.int .i64 8) := (hb2.cell (p := ⟨w1.heap.size, 1, none⟩) (by simp; omega)).trans (by go_simp)
  have l2 : w2.cell? ⟨w1.heap.size, 2, none⟩ = some (.int .i64 2) := (hb2.cell (p := ⟨w1.heap.size, 2, none⟩) (by simp; omega)).trans (by go_simp)
  have hs2 := hb2.size
  (try simp at hs2)
  have hz2 : w1.heap.size < w2.heap.size := by omega
  have hy2 : w.heap.size ≤ w2.heap.size := by omega
  have hG2 := hM.2.2
  have HM := hide hM
  clear hb2 hM hG hs2 hcc1 hff1 hb1
  go_wp2_with fail
  refine (image_ok 3 8 2 G 448 448 awL _ valid382 (hs.below (by repeat' (first | with_reducible exact Below.refl _ _ | with_reducible assumption | with_reducible refine Below.alloc ?_ ?_ _ | with_reducible refine Below.setCell ?_ ?_ _ | with_reducible refine Below.drew ?_ | with_reducible refine below_drewN ?_ _ | with_reducible refine Below.trans ?_ (Below.mono (by with_reducible assumption) ?_) | omega | (simp <;> omega)))) (HM.out.grow (by repeat' (first | with_reducible exact Below.refl _ _ | with_reducible assumption | with_reducible refine Below.alloc ?_ ?_ _ | with_reducible refine Below.setCell ?_ ?_ _ | with_reducible refine Below.drew ?_ | with_reducible refine below_drewN ?_ _ | with_reducible refine Below.trans ?_ (Below.mono (by with_reducible assumption) ?_) | omega | (simp <;> omega)))) hlen (by omega) (Nat.le_refl _) hok from382).mono ?_
  rintro e w4 hI
  unfold ImagePost at hI
  rw [show (3 : Int).toNat = 3 from rfl, Haw.out, if_pos rfl] at hI
  obtain ⟨gi, capi, A, capA, rfl, hMi, hgi, hci, hcm, hRd, hb4⟩ := hI
  obtain ⟨bR, oR, rfl, hbR, hat⟩ := hRd.2 (by decide)
  have hrl : repsL 3 8 2 (redoL 3 8 2 awL) 3 = repC 1 (askedL 3 8 2 (redoL 3 8 2 awL) 1) ++ (repC 2 (askedL 3 8 2 (redoL 3 8 2 awL) 2) ++ repC 3 (askedL 3 8 2 (redoL 3 8 2 awL) 3)) := rfl
  rw [hrl, Hrep.out] at hat
  have r0 : w4.cell? ⟨bR, oR, none⟩ = some (.int .i64 1) := hat 0 _ rfl
  have r1 : w4.cell? ⟨bR, oR + 1, none⟩ = some (.int .i64 3) := hat 1 _ rfl
  have r2 : w4.cell? ⟨bR, oR + 2, none⟩ = some (.int .i64 0) := hat 2 _ rfl
  have r3 : w4.cell? ⟨bR, oR + 3, none⟩ = some (.int .i64 7) := hat 3 _ rfl
  have hx := Hcell.out
  rw [show (atL 3 8 2 3 0 0).toNat = 56 by decide] at hx
  have i0 := hMi.w0 hx
  have i1 := hMi.w1 hx
  have i2 := hMi.w2 hx
  simp only [Nat.reduceMul, Nat.reduceAdd] at i0 i1 i2
  obtain ⟨hcc4, hff4⟩ := bcell hb4
  have hs4 := hb4.size
  have hz4 : w1.heap.size < w4.heap.size := by omega
  have hy4 : w.heap.size ≤ w4.heap.size := by omega
  have hg4 := hMi.2.2
  have hG4 : G < w4.heap.size := by omega
  have hci0 : 0 < capi := by omega
  clear hRd hat hrl hx hMi hcc4 hff4
  have k0 : w4.cell? ⟨w1.heap.size, 0, none⟩ = some (.int .i64 3) := (hb4.cell (p := ⟨w1.heap.size, 0, none⟩) hz2).trans l0
  have k1 : w4.cell? ⟨w1.heap.size, 1, none⟩ = some (.int .i64 8) := (hb4.cell (p := ⟨w1.heap.size, 1, none⟩) hz2).trans l1
  have k2 : w4.cell? ⟨w1.heap.size, 2, none⟩ = some (.int .i64 2) := (hb4.cell (p := ⟨w1.heap.size, 2, none⟩) hz2).trans l2
  have hB4 : Below w.heap.size w w4 := (by repeat' (first | with_reducible exact Below.refl _ _ | with_reducible assumption | with_reducible refine Below.alloc ?_ ?_ _ | with_reducible refine Below.setCell ?_ ?_ _ | with_reducible refine Below.drew ?_ | with_reducible refine below_drewN ?_ _ | with_reducible refine Below.trans ?_ (Below.mono (by with_reducible assumption) ?_) | omega | (simp <;> omega)))
  have HM4 := hide (HM.out.grow hb4)
  clear hb4 l0 l1 l2 HM hB2 hs4
  go_wp2_with fail
  refine (seqs_ok 3 8 2 G 448 448 awL _ valid382 (hs.below (by repeat' (first | with_reducible exact Below.refl _ _ | with_reducible assumption | with_reducible refine Below.alloc ?_ ?_ _ | with_reducible refine Below.setCell ?_ ?_ _ | with_reducible refine Below.drew ?_ | with_reducible refine below_drewN ?_ _ | with_reducible refine Below.trans ?_ (Below.mono (by with_reducible assumption) ?_) | omega | (simp <;> omega)))) (HM4.out.grow (by repeat' (first | with_reducible exact Below.refl _ _ | with_reducible assumption | with_reducible refine Below.alloc ?_ ?_ _ | with_reducible refine Below.setCell ?_ ?_ _ | with_reducible refine Below.drew ?_ | with_reducible refine below_drewN ?_ _ | with_reducible refine Below.trans ?_ (Below.mono (by with_reducible assumption) ?_) | omega | (simp <;> omega)))) hlen (by omega) hok from382).mono ?_
  rw [show (3 : Int).toNat = 3 from rfl]
  rintro e w5 ⟨Q, capQ, rfl, hQ, -, hb5⟩
  rw [hsq] at hQ ⊢
  obtain ⟨bQ, oQ, rfl, hbQ, hqt⟩ := hQ.2 (by decide)
  have q0 : w5.cell? ⟨bQ, oQ, none⟩ = some (.int .i64 5) := hqt 0 _ (by rw [List.getElem?_map, Hsq.out]; rfl)
  obtain ⟨hcc5, hff5⟩ := bcell hb5
  have hs5 := hb5.size
  have hz5 : w1.heap.size < w5.heap.size := by omega
  have hy5 : gi < w5.heap.size := by omega
  have hx5 : bR < w5.heap.size := by omega
  clear hQ hqt
  have he := eqRep 1 3 0 7
  have hw := fun W => eqWord ⟨5, 2, 0⟩ ⟨5, 2, 0⟩ W
  rw [show eq3 ⟨5, 2, 0⟩ ⟨5, 2, 0⟩ = true from rfl] at hw
  go_wp2_with (first
    | (go_at_call 17; refine (cell_ok 3 8 2 0 _ valid382 (hs.below (by repeat' (first | with_reducible exact Below.refl _ _ | with_reducible assumption | with_reducible refine Below.alloc ?_ ?_ _ | with_reducible refine Below.setCell ?_ ?_ _ | with_reducible refine Below.drew ?_ | with_reducible refine below_drewN ?_ _ | with_reducible refine Below.trans ?_ (Below.mono (by with_reducible assumption) ?_) | omega | (simp <;> omega))))).mono ?_; rintro e w6 ⟨rfl, hb6⟩; rw [show atL 3 8 2 3 0 0 = 56 by decide]; obtain ⟨hcc6, hff6⟩ := bcell hb6; have hs6 := hb6.size; (try simp at hs6)))
  go_ret
  exact ⟨rfl, (by repeat' (first | with_reducible exact Below.refl _ _ | with_reducible assumption | with_reducible refine Below.alloc ?_ ?_ _ | with_reducible refine Below.setCell ?_ ?_ _ | with_reducible refine Below.drew ?_ | with_reducible refine below_drewN ?_ _ | with_reducible refine Below.trans ?_ (Below.mono (by with_reducible assumption) ?_) | omega | (simp <;> omega)))⟩
end Go.Proofs.YtbomhhkknopdpaaGreatDoor
