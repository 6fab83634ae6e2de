/- Package layout: First. -/
import Derived.Test.YtbomhhkknopdpaaGreatDoorR4
import Derived.Test.YtbomhhkknopdpaaGreatDoorBut
import Derived.OwnWalk
namespace Go.Proofs.YtbomhhkknopdpaaGreatDoor
set_option linter.unusedSimpArgs false
set_option linter.unusedVariables false
open Go.RowKit
theorem made_zero (n : Nat) : (madeCells (Value.agg #[.int .i64 0, .int .u32 0, .int .u32 0]).cells (n * 3)).toList = (List.replicate n z3).flatMap w3c := by
  apply List.ext_getElem
  · rw [flat_len, List.length_replicate]
    simp [size_madeCells]
  · intro j h1 h2
    rw [flat_len, List.length_replicate] at h2
    have hz : (List.replicate n z3)[j / 3]? = some z3 := by rw [List.getElem?_replicate]; simp; omega
    have hf := flat_at (List.replicate n z3) hz (j % 3) (by omega)
    rw [show j / 3 * 3 + j % 3 = j by omega] at hf
    have e : ((List.replicate n z3).flatMap w3c)[j]? = some (((List.replicate n z3).flatMap w3c)[j]'(by rw [flat_len, List.length_replicate]; exact h2)) := List.getElem?_eq_getElem _
    rw [hf] at e
    have hm : j % 3 = 0 ∨ j % 3 = 1 ∨ j % 3 = 2 := by omega
    have hl : (madeCells (Value.agg #[.int .i64 0, .int .u32 0, .int .u32 0]).cells (n * 3)).toList[j]'h1 = #[Value.int .i64 0, .int .u32 0, .int .u32 0][j % 3]! := by
      simp [madeCells, Value.cells]
    rw [hl]
    rcases hm with hm | hm | hm
    · rw [hm] at e ⊢; injection e
    · rw [hm] at e ⊢; injection e
    · rw [hm] at e ⊢; injection e
/-- A word's value is overwritten. -/
def setV (v : Int) (o : List W3) (a : Int) : List W3 := o.set a.toNat ⟨v, (o.getD a.toNat z3).r, (o.getD a.toNat z3).f⟩
theorem setV_len (v : Int) (o : List W3) (a : Int) : (setV v o a).length = o.length := by unfold setV; rw [List.length_set]
theorem setV_eq {o : List W3} {p : Nat} {z : W3} (hz : o[p]? = some z) (v : Int) : setV v o (p : Int) = o.set p ⟨v, z.r, z.f⟩ := by
  unfold setV
  rw [Int.toNat_natCast, List.getD_eq_getElem?_getD, hz]
  rfl
theorem foldV_len (v : Int) : ∀ (l : List Int) (o : List W3), (l.foldl (setV v) o).length = o.length
  | [], _ => rfl
  | a :: l, o => by rw [List.foldl_cons, foldV_len v l, setV_len]
def first1 (T C B : Int) : List W3 := setV 1 (List.replicate (fromL T C B 7).toNat z3) 1
def first2 (T C B : Int) : List W3 := (slotsTo T C B T.toNat).foldl (setV 2) (first1 T C B)
/-- The initial words. -/
def firstL (T C B : Int) : List W3 := (blocksTo T C B B.toNat).foldl (setV 2) (first2 T C B)
theorem firstL_len (T C B : Int) : (firstL T C B).length = (fromL T C B 7).toNat := by
  unfold firstL first2 first1
  rw [foldV_len, foldV_len, setV_len, List.length_replicate]
theorem slotsTo_at (T C B : Int) {k n : Nat} (h : k < n) : (slotsTo T C B n)[k]? = some (atL T C B 4 (k : Nat) 0) := by unfold slotsTo; simp [h]
theorem blocksTo_at (T C B : Int) {k n : Nat} (h : k < n) : (blocksTo T C B n)[k]? = some (atL T C B 6 (k : Nat) 0) := by unfold blocksTo; simp [h]
def FirstPost (ws : List W3) (n : Nat) (w : World) (e : Ending) (w' : World) : Prop := ∃ g : Nat, e = .returned (.slice (some ⟨g, 0, none⟩) n n) ∧ Mem g ws w' ∧ w.heap.size ≤ g ∧ Below w.heap.size w w'
set_option maxHeartbeats 4000000 in
set_option maxRecDepth 100000 in
theorem first_ok (T C B : Int) (n : Nat) (w : World) (hv : Valid T C B) (hs : Sizes w) (hn : fromL T C B 7 = (n : Int)) (hn8 : 8 ≤ n) :
    Calls Tryz.prog 11 #[(.agg #[.int .i64 T, .int .i64 C, .int .i64 B])] w (FirstPost (firstL T C B) n w) := by
  have hp := hs.pos
  have hn4 : n ≤ 4096 := by have := hv.2; omega
  obtain ⟨f1, f2, -, -, f5, f6⟩ := hv.1
  obtain ⟨M, rfl⟩ : ∃ M : Nat, T = (M : Int) := ⟨T.toNat, by omega⟩
  obtain ⟨K, rfl⟩ : ∃ K : Nat, B = (K : Int) := ⟨B.toNat, by omega⟩
  obtain ⟨R, hR⟩ : ∃ R, R = firstL M C K := ⟨_, rfl⟩
  have h2 : R = (blocksTo M C K K).foldl (setV 2) ((slotsTo M C K M).foldl (setV 2) (setV 1 (List.replicate n z3) 1)) := by
    rw [hR]
    unfold firstL first2 first1
    rw [hn]
    rfl
  rw [← hR]
  have HR := hide h2
  have HN := hide hn
  obtain ⟨i0, hi, iz0, iz1, iz2⟩ := info_parts info_word
  clear hR h2 hn
  go_enter Tryz.func11, Tryz.ntmps11
  go_wp2_with (first
    | (go_at_call 34; refine (right_ok M C K _ hv (hs.below (by repeat' (first | with_reducible exact Below.refl _ _ | with_reducible assumption | with_reducible refine Below.alloc ?_ ?_ _ | with_reducible refine Below.setCell ?_ ?_ _ | with_reducible refine Below.drew ?_ | with_reducible refine below_drewN ?_ _ | with_reducible refine Below.trans ?_ (Below.mono (by with_reducible assumption) ?_) | omega | (simp <;> omega))))).mono ?_; rintro e w1 ⟨rfl, hb1⟩; obtain ⟨hcc1, hff1⟩ := bcell hb1; have hs1 := hb1.size; (try simp at hs1); have hz1 : w.heap.size < w1.heap.size := (by omega); have hq1 : 0 < w1.heap.size := (by omega))
    | (go_at_call 21; refine (size_ok M C K _ hv (hs.below (by repeat' (first | with_reducible exact Below.refl _ _ | with_reducible assumption | with_reducible refine Below.alloc ?_ ?_ _ | with_reducible refine Below.setCell ?_ ?_ _ | with_reducible refine Below.drew ?_ | with_reducible refine below_drewN ?_ _ | with_reducible refine Below.trans ?_ (Below.mono (by with_reducible assumption) ?_) | omega | (simp <;> omega))))).mono ?_; rintro e w2 ⟨rfl, hb2⟩; rw [HN.out]; obtain ⟨hcc2, hff2⟩ := bcell hb2; have hs2 := hb2.size; (try simp at hs2); have hz2 : w.heap.size < w2.heap.size := (by omega); have hq2 : 0 < w2.heap.size := (by omega))
    | (at_make; refine wpList_make_full _ rfl _ _ 25 rfl w2.heap.size 62 i0 _ 3 Tryz.underlying25 hi iz0 iz1 _ _ _ _ n rfl rfl rfl rfl (by rw [iz2]; omega) (by unfold maxLen; omega) (by simp) ?_; intro w3 hown3 hgr3; rw [made_zero] at hown3; obtain ⟨hMg3, hg3, -⟩ := Mem.of_own hown3 (by omega); have hb3 : Below w2.heap.size w2 w3 := (Below.refl _ _).grown hgr3 (Nat.le_refl _) (fun _ h => by cases h); obtain ⟨hcc3, hff3⟩ := bcell hb3; have hs3 := hb3.size; have hz3 : w.heap.size < w3.heap.size := (by omega); have HMg3 := hide hMg3; clear hMg3 hown3 hgr3)
    | (go_at_call 35; refine (era_ok M C K _ hv (hs.below (by repeat' (first | with_reducible exact Below.refl _ _ | with_reducible assumption | with_reducible refine Below.alloc ?_ ?_ _ | with_reducible refine Below.setCell ?_ ?_ _ | with_reducible refine Below.drew ?_ | with_reducible refine below_drewN ?_ _ | with_reducible refine Below.trans ?_ (Below.mono (by with_reducible assumption) ?_) | omega | (simp <;> omega))))).mono ?_; rintro e w4 ⟨rfl, hb4⟩; obtain ⟨hcc4, hff4⟩ := bcell hb4; have hs4 := hb4.size; (try simp at hs4); have hz4 : w.heap.size < w4.heap.size := (by omega); have hM4 := HMg3.out.grow hb4; have hz40 : (List.replicate n z3)[1]? = some z3 := (by rw [List.getElem?_replicate]; simp; omega); have s0 := hM4.w0 hz40; have s1 := hM4.w1 hz40; have s2 := hM4.w2 hz40; have sf := hM4.2.1; have hn1 : (1 : Int) < (n : Int) := (by omega); have hn1' : 1 < n := (by omega); have Hz40 := hide hz40; clear hz40))
  have e0 : w4.cell? ⟨w.heap.size, 0, none⟩ = some (.int .i64 M) := by go_simp
  have e1 : w4.cell? ⟨w.heap.size, 1, none⟩ = some (.int .i64 C) := by go_simp
  have e2 : w4.cell? ⟨w.heap.size, 2, none⟩ = some (.int .i64 K) := by go_simp
  have hB4 : Below w.heap.size w w4 := (by repeat' (first | with_reducible exact Below.refl _ _ | with_reducible assumption | with_reducible refine Below.alloc ?_ ?_ _ | with_reducible refine Below.setCell ?_ ?_ _ | with_reducible refine Below.drew ?_ | with_reducible refine below_drewN ?_ _ | with_reducible refine Below.trans ?_ (Below.mono (by with_reducible assumption) ?_) | omega | (simp <;> omega)))
  have HG4 : Hid (Mem w2.heap.size (setV 1 (List.replicate n z3) 1) (w4.setCell ⟨w2.heap.size, 3, none⟩ (.int .i64 1))) := hide (by
    have h := hM4.setV Hz40.out 1
    have e : setV 1 (List.replicate n z3) 1 = (List.replicate n z3).set 1 ⟨1, z3.r, z3.f⟩ := by
      unfold setV
      rw [show (1 : Int).toNat = 1 from rfl, List.getD_eq_getElem?_getD, Hz40.out]
      rfl
    rw [e]
    exact h)
  obtain ⟨w5, hw5⟩ : ∃ w5 : World, w5 = w4.setCell ⟨w2.heap.size, 3, none⟩ (.int .i64 1) := ⟨_, rfl⟩
  have hgw : ¬ w2.heap.size = w.heap.size := by omega
  have g0 : w5.cell? ⟨w.heap.size, 0, none⟩ = some (.int .i64 M) := by rw [hw5]; go_simp
  have g1 : w5.cell? ⟨w.heap.size, 1, none⟩ = some (.int .i64 C) := by rw [hw5]; go_simp
  have g2 : w5.cell? ⟨w.heap.size, 2, none⟩ = some (.int .i64 K) := by rw [hw5]; go_simp
  have hB5 : Below w.heap.size w w5 := by rw [hw5]; exact hB4.setCell (by simp; omega) _
  have hz5 : w.heap.size < w5.heap.size := by rw [hw5]; simpa using hz4
  have hG5 : w2.heap.size < w5.heap.size := by rw [hw5]; have := hM4.2.2; simpa using this
  rw [← hw5] at HG4 ⊢
  have HS5 := hide (hs.below hB5)
  obtain ⟨G, hG⟩ : ∃ G, G = w2.heap.size := ⟨_, rfl⟩
  rw [← hG] at HG4 hG5 hgw ⊢
  have hGw : w.heap.size < G := by omega
  clear hG
  obtain ⟨O1, hO1⟩ : ∃ O, O = setV 1 (List.replicate n z3) 1 := ⟨_, rfl⟩
  have hO1l : O1.length = n := by rw [hO1, setV_len, List.length_replicate]
  rw [← hO1] at HG4 HR
  have HO1 := hide hO1l
  clear hw5 e0 e1 e2 hB4 hcc1 hff1 hb1 hcc2 hff2 hb2 hcc3 hff3 hb3 hcc4 hff4 hb4 hM4 s0 s1 s2 sf hO1 hO1l
  go_loopw [4] (fun i wr => ∃ k : Nat, i = .int .i64 ((k : Int) + 1) ∧ k ≤ M ∧ Mem G (((slotsTo M C K M).take k).foldl (setV 2) O1) wr ∧ But G w5.heap.size w5 wr) (fun i _ => M + 1 - (intOf i).toNat)
  case atStart => exact ⟨0, by go_num, by omega, by simpa using HG4.out, (by repeat' (first | with_reducible exact But.refl _ _ _ | with_reducible assumption | with_reducible refine But.alloc ?_ ?_ _ | with_reducible refine But.setCell ?_ ?_ _ | with_reducible refine But.drew ?_ | with_reducible refine But.drewN ?_ _ | with_reducible refine But.of ?_ (Below.mono (by with_reducible assumption) ?_) | (left; rfl) | omega | (right; simp <;> omega) | (simp <;> omega)))⟩
  case round =>
    obtain ⟨k, rfl, hk, hM, hB⟩ := hrel
    have hsz := hB.size
    have f0 := (hB.cell (p := ⟨w.heap.size, 0, none⟩) hz5 (by show w.heap.size ≠ G; omega)).trans g0
    have f1 := (hB.cell (p := ⟨w.heap.size, 1, none⟩) hz5 (by show w.heap.size ≠ G; omega)).trans g1
    have f2 := (hB.cell (p := ⟨w.heap.size, 2, none⟩) hz5 (by show w.heap.size ≠ G; omega)).trans g2
    have HSr := hide (HS5.out.below' (B := min G w5.heap.size) (by omega) (hB.below (by omega) (by omega)))
    have HG := hide hM
    have hBr : Below w.heap.size w wr := hB5.trans (hB.below (by omega) (by omega))
    have hzr : w.heap.size < wr.heap.size := by omega
    clear hM
    by_cases hlt : k < M
    · have hle : (k : Int) + 1 ≤ (M : Int) := by omega
      have ha := slotsTo_at M C K hlt
      have hin := atL_in M C K hv 4 (by decide) (k : Nat) 0 (by omega) (by show ((k : Nat) : Int) < (M : Int); omega) (by decide) (by decide)
      rw [HN.out] at hin
      have hsl := fun W hs' => slot_ok M C K ((k : Int) + 1) W hv hs' (by omega) (by omega)
      rw [show (k : Int) + 1 - 1 = (k : Nat) by omega] at hsl
      obtain ⟨p, hpp⟩ : ∃ p : Nat, atL M C K 4 (k : Nat) 0 = (p : Int) := ⟨(atL M C K 4 (k : Nat) 0).toNat, by omega⟩
      rw [hpp] at hsl hin ha
      obtain ⟨hin0, hin1⟩ := hin
      obtain ⟨o, ho⟩ : ∃ o, o = ((slotsTo M C K M).take k).foldl (setV 2) O1 := ⟨_, rfl⟩
      have hst := foldl_take_succ (setV 2) O1 (slotsTo M C K M) ha
      rw [← ho] at hst
      have hol : o.length = n := by rw [ho, foldV_len, HO1.out]
      obtain ⟨z, hz⟩ : ∃ z, o[p]? = some z := ⟨_, List.getElem?_eq_getElem (by omega)⟩
      rw [setV_eq hz] at hst
      have HG2 : Hid (Mem G o wr) := by rw [ho]; exact HG
      have Hst := hide hst
      have Hz := hide hz
      have Hsl := hide hsl
      have hGr := HG2.out.2.2
      have s0 := HG2.out.w0 hz
      have s1 := HG2.out.w1 hz
      have s2 := HG2.out.w2 hz
      have sf := HG2.out.2.1
      clear hst hz hsl ho hol ha HG
      go_wp2_with (first
        | (go_at_call 36; refine (Hsl.out _ (HSr.out.below (by repeat' (first | with_reducible exact Below.refl _ _ | with_reducible assumption | with_reducible refine Below.alloc ?_ ?_ _ | with_reducible refine Below.setCell ?_ ?_ _ | with_reducible refine Below.drew ?_ | with_reducible refine below_drewN ?_ _ | with_reducible refine Below.trans ?_ (Below.mono (by with_reducible assumption) ?_) | omega | (simp <;> omega))))).mono ?_; rintro e' w6 ⟨rfl, hb6⟩; obtain ⟨hcc6, hff6⟩ := bcell hb6; have hs6 := hb6.size; (try simp at hs6); have hG6 := HG2.out.grow hb6))
      exact ⟨⟨k + 1, by go_num, by omega, by rw [Hst.out]; exact hG6.setV Hz.out 2, (by repeat' (first | with_reducible exact But.refl _ _ _ | with_reducible assumption | with_reducible refine But.alloc ?_ ?_ _ | with_reducible refine But.setCell ?_ ?_ _ | with_reducible refine But.drew ?_ | with_reducible refine But.drewN ?_ _ | with_reducible refine But.of ?_ (Below.mono (by with_reducible assumption) ?_) | (left; rfl) | omega | (right; simp <;> omega) | (simp <;> omega)))⟩, by simp [intOf]; omega⟩
    · obtain rfl : M = k := by omega
      obtain ⟨O2, hO2⟩ : ∃ O, O = (slotsTo M C K M).foldl (setV 2) O1 := ⟨_, rfl⟩
      have hO2l : O2.length = n := by rw [hO2, foldV_len, HO1.out]
      have HG5 : Hid (Mem G O2 wr) := by
        have h := HG.out
        rw [List.take_of_length_le (by rw [slotsTo_len]; exact Nat.le_refl _)] at h
        rw [hO2]
        exact h
      have HR2 : Hid (R = (blocksTo M C K K).foldl (setV 2) O2) := by rw [hO2]; exact HR.out
      have HO2 := hide hO2l
      clear hO2 hO2l HG HR HO1 hlt hk
      obtain ⟨wo, rfl⟩ : ∃ wo : World, wo = wr := ⟨_, rfl⟩
      go_wp2_with fail
      have hGo : G < wo.heap.size := HG5.out.2.2
      go_loopw [31] (fun i wr => ∃ k : Nat, i = .int .i64 k ∧ k ≤ K ∧ Mem G (((blocksTo M C K K).take k).foldl (setV 2) O2) wr ∧ But G wo.heap.size wo wr) (fun i _ => K - (intOf i).toNat)
      case atStart => exact ⟨0, by go_num, by omega, by simpa using HG5.out, (by repeat' (first | with_reducible exact But.refl _ _ _ | with_reducible assumption | with_reducible refine But.alloc ?_ ?_ _ | with_reducible refine But.setCell ?_ ?_ _ | with_reducible refine But.drew ?_ | with_reducible refine But.drewN ?_ _ | with_reducible refine But.of ?_ (Below.mono (by with_reducible assumption) ?_) | (left; rfl) | omega | (right; simp <;> omega) | (simp <;> omega)))⟩
      case round =>
        obtain ⟨k, rfl, hk, hM, hB'⟩ := hrel
        have hsz' := hB'.size
        have f0' := (hB'.cell (p := ⟨w.heap.size, 0, none⟩) hzr (by show w.heap.size ≠ G; omega)).trans f0
        have f1' := (hB'.cell (p := ⟨w.heap.size, 1, none⟩) hzr (by show w.heap.size ≠ G; omega)).trans f1
        have f2' := (hB'.cell (p := ⟨w.heap.size, 2, none⟩) hzr (by show w.heap.size ≠ G; omega)).trans f2
        have HSr2 := hide (HSr.out.below' (B := min G wo.heap.size) (by omega) (hB'.below (by omega) (by omega)))
        have HG := hide hM
        have hBr2 : Below w.heap.size w wr := hBr.trans (hB'.below (by omega) (by omega))
        have hzr2 : w.heap.size < wr.heap.size := by omega
        clear hM f0 f1 f2
        by_cases hlt : k < K
        · have ha := blocksTo_at M C K hlt
          have hin := atL_in M C K hv 6 (by decide) (k : Nat) 0 (by omega) (by show ((k : Nat) : Int) < (K : Int); omega) (by decide) (by decide)
          rw [HN.out] at hin
          have hsl := fun W hs' => block_ok M C K (k : Int) W hv hs'
          obtain ⟨p, hpp⟩ : ∃ p : Nat, atL M C K 6 (k : Nat) 0 = (p : Int) := ⟨(atL M C K 6 (k : Nat) 0).toNat, by omega⟩
          rw [hpp] at hsl hin ha
          obtain ⟨hin0, hin1⟩ := hin
          obtain ⟨o, ho⟩ : ∃ o, o = ((blocksTo M C K K).take k).foldl (setV 2) O2 := ⟨_, rfl⟩
          have hst := foldl_take_succ (setV 2) O2 (blocksTo M C K K) ha
          rw [← ho] at hst
          have hol : o.length = n := by rw [ho, foldV_len, HO2.out]
          obtain ⟨z, hz⟩ : ∃ z, o[p]? = some z := ⟨_, List.getElem?_eq_getElem (by omega)⟩
          rw [setV_eq hz] at hst
          have HG2 : Hid (Mem G o wr) := by rw [ho]; exact HG
          have Hst := hide hst
          have Hz := hide hz
          have Hsl := hide hsl
          have hGr := HG2.out.2.2
          have s0 := HG2.out.w0 hz
          have s1 := HG2.out.w1 hz
          have s2 := HG2.out.w2 hz
          have sf := HG2.out.2.1
          clear hst hz hsl ho hol ha HG
          go_wp2_with (first
            | (go_at_call 37; refine (Hsl.out _ (HSr2.out.below (by repeat' (first | with_reducible exact Below.refl _ _ | with_reducible assumption | with_reducible refine Below.alloc ?_ ?_ _ | with_reducible refine Below.setCell ?_ ?_ _ | with_reducible refine Below.drew ?_ | with_reducible refine below_drewN ?_ _ | with_reducible refine Below.trans ?_ (Below.mono (by with_reducible assumption) ?_) | omega | (simp <;> omega))))).mono ?_; rintro e' w6 ⟨rfl, hb6⟩; obtain ⟨hcc6, hff6⟩ := bcell hb6; have hs6 := hb6.size; (try simp at hs6); have hG6 := HG2.out.grow hb6))
          exact ⟨⟨k + 1, by go_num, by omega, by rw [Hst.out]; exact hG6.setV Hz.out 2, (by repeat' (first | with_reducible exact But.refl _ _ _ | with_reducible assumption | with_reducible refine But.alloc ?_ ?_ _ | with_reducible refine But.setCell ?_ ?_ _ | with_reducible refine But.drew ?_ | with_reducible refine But.drewN ?_ _ | with_reducible refine But.of ?_ (Below.mono (by with_reducible assumption) ?_) | (left; rfl) | omega | (right; simp <;> omega) | (simp <;> omega)))⟩, by simp [intOf]; omega⟩
        · obtain rfl : K = k := by omega
          have HG6 : Hid (Mem G R wr) := by
            have h := HG.out
            rw [List.take_of_length_le (by rw [blocksTo_len]; exact Nat.le_refl _)] at h
            rw [HR2.out]
            exact h
          go_wp2_with fail
          go_ret
          exact ⟨G, rfl, HG6.out, by omega, hBr2⟩
end Go.Proofs.YtbomhhkknopdpaaGreatDoor
