/- ReviveTwice: recovering what was recovered changes nothing. -/
import Derived.Test.YtfldjbojonbmpaaDoorCards
import Derived.Test.YtfldjbojonbmpaaDoorTie
import Derived.Test.YtfldjbojonbmpaaDoorFr2
import Derived.Test.YtfldjbojonbmpaaDoorM6
import Derived.Test.YtfldjbojonbmpaaDoorMo
import Derived.Test.YtfldjbojonbmpaaDoorMt
namespace Go.Proofs.YtfldjbojonbmpaaDoor.lawTwice
set_option linter.unusedSimpArgs false
set_option linter.unusedVariables false
open Go.ChangeShapes Go.WideShapes Go.ChangeAt Go.RowKit
theorem own : ownKnob Tryd.prog.godebug = none := by kernel_rfl
theorem image_cases {R : List W3} {n : Nat} {w w' : World} {e : Ending} (h : ImagePost 3 8 2 R n w e w') : ∃ (Ai : Option Addr) (ni ci : Nat) (A : Option Addr) (nr cA : Nat) (er : Int), e = .returned (.tuple #[.slice Ai ni ci, .slice A nr cA, .int .i64 er]) ∧ Below w.heap.size w w' ∧
    ((recsL 3 8 2 R 3 = true ∧ er = 0 ∧ nr = 3 ∧ ni = n ∧ n ≤ ci ∧ (∃ g : Nat, Ai = some ⟨g, 0, none⟩ ∧ Mem g R w') ∧ Rd w' w'.heap.size 4 A 3 (repsL 3 8 2 R 3)) ∨ (recsL 3 8 2 R 3 = false ∧ er = 5 ∧ ni = 0 ∧ nr = 0)) := by
  unfold ImagePost at h
  rw [show (3 : Int).toNat = 3 from rfl] at h
  split at h
  · rename_i hr
    obtain ⟨g, cap, A, capA, rfl, h1, -, h4, -, h2, h3⟩ := h
    exact ⟨_, _, _, _, _, _, _, rfl, h3,   .inl ⟨hr, rfl, rfl, rfl, h4, ⟨g, rfl, h1⟩, h2⟩⟩
  · rename_i hr
    obtain ⟨rfl, h3⟩ := h
    exact ⟨_, _, _, _, _, _, _, rfl, h3, .inr ⟨by simpa using hr, rfl, rfl, rfl⟩⟩
set_option maxHeartbeats 8000000 in
set_option maxRecDepth 100000 in
theorem law_ok (m : MemArg) (w : World) (hs : Sizes w) (hm : m.In w w.heap.size) (hok : m.ok) : Calls Tryd.prog 4 #[m.val] w fun e w' => e = .returned (.bool true) ∧ Below w.heap.size w w' := by
  have hp := hs.pos
  obtain ⟨As, cs, sl, Ac, cc, ce, Ar, cr, re, Ao, co, ov, Aa, ca, ats⟩ := m
  obtain ⟨m, hmm⟩ : ∃ m, m = MemArg.mk As cs sl Ac cc ce Ar cr re Ao co ov Aa ca ats := ⟨_, rfl⟩
  rw [← hmm] at hm hok
  have hmv : m.val = .agg #[.slice As sl.length cs, .slice Ac ce.length cc, .slice Ar re.length cr, .slice Ao ov.length co, .slice Aa ats.length ca] := by rw [hmm]; rfl
  rw [← hmm, hmv]
  have Hm := hide hm
  have Hok := hide hok
  have Hmv := hide hmv
  clear hm hok hmv hmm
  go_enter Tryd.func4, Tryd.ntmps4
  go_wp2_with (first | (go_at_call 6; refine (plan_ok _).mono ?_; rintro e w1 ⟨rfl, hb1⟩; obtain ⟨hcc1, hff1⟩ := bcell hb1; have hs1 := hb1.size; (try simp at hs1); have hz1 : w.heap.size < w1.heap.size := (by omega)))
  rw [← Hmv.out]
  cases hf : m.fits with
  | false =>
    refine (make_no m _ (hs.below (by repeat' (first | with_reducible exact Below.refl _ _ | with_reducible assumption | with_reducible refine Below.alloc ?_ ?_ _ | with_reducible refine Below.setCell ?_ ?_ _ | with_reducible refine Below.drew ?_ | with_reducible refine below_drewN ?_ _ | with_reducible refine Below.trans ?_ (Below.mono (by with_reducible assumption) ?_) | omega | (simp <;> omega)))) hf).mono ?_
    rintro e w2 ⟨rfl, hb2⟩
    obtain ⟨hcc2, hff2⟩ := bcell hb2
    have hs2 := hb2.size
    (try simp at hs2)
    go_wp2_with (first | (go_at_call 8; refine (awake_ok _ (hs.below (by repeat' (first | with_reducible exact Below.refl _ _ | with_reducible assumption | with_reducible refine Below.alloc ?_ ?_ _ | with_reducible refine Below.setCell ?_ ?_ _ | with_reducible refine Below.drew ?_ | with_reducible refine below_drewN ?_ _ | with_reducible refine Below.trans ?_ (Below.mono (by with_reducible assumption) ?_) | omega | (simp <;> omega))))).mono ?_; rintro e w9 ⟨rfl, hb9⟩; obtain ⟨hcc9, hff9⟩ := bcell hb9; have hs9 := hb9.size; (try simp at hs9)))
    go_ret
    exact ⟨rfl, (by repeat' (first | with_reducible exact Below.refl _ _ | with_reducible assumption | with_reducible refine Below.alloc ?_ ?_ _ | with_reducible refine Below.setCell ?_ ?_ _ | with_reducible refine Below.drew ?_ | with_reducible refine below_drewN ?_ _ | with_reducible refine Below.trans ?_ (Below.mono (by with_reducible assumption) ?_) | omega | (simp <;> omega)))⟩
  | true =>
    refine (make_yes m _ (hs.below (by repeat' (first | with_reducible exact Below.refl _ _ | with_reducible assumption | with_reducible refine Below.alloc ?_ ?_ _ | with_reducible refine Below.setCell ?_ ?_ _ | with_reducible refine Below.drew ?_ | with_reducible refine below_drewN ?_ _ | with_reducible refine Below.trans ?_ (Below.mono (by with_reducible assumption) ?_) | omega | (simp <;> omega)))) hf ((Hm.out.below (by repeat' (first | with_reducible exact Below.refl _ _ | with_reducible assumption | with_reducible refine Below.alloc ?_ ?_ _ | with_reducible refine Below.setCell ?_ ?_ _ | with_reducible refine Below.drew ?_ | with_reducible refine below_drewN ?_ _ | with_reducible refine Below.trans ?_ (Below.mono (by with_reducible assumption) ?_) | omega | (simp <;> omega)))).more (by first | omega | (simp; omega))) Hok.out).mono ?_
    rintro e w2 ⟨G, rfl, hM, hG, hb2⟩
    obtain ⟨ws, hws⟩ : ∃ ws, ws = m.words := ⟨_, rfl⟩
    rw [← hws] at hM
    have hl : ws.length = 448 := by rw [hws]; exact m.len_words
    have hwok : ∀ x ∈ ws, x.ok := by rw [hws]; exact MemArg.ok_words Hok.out
    have l0 : w2.cell? ⟨w1.heap.size, 0, none⟩ = some (.int .i64 3) := (hb2.cell (p := ⟨w1.heap.size, 0, none⟩) (by simp)).trans (by go_simp)
    have l1 : w2.cell? ⟨w1.heap.size, 1, none⟩ = some (.int .i64 8) := (hb2.cell (p := ⟨w1.heap.size, 1, none⟩) (by simp)).trans (by go_simp)
    have l2 : w2.cell? ⟨w1.heap.size, 2, none⟩ = some (.int .i64 2) := (hb2.cell (p := ⟨w1.heap.size, 2, none⟩) (by simp)).trans (by go_simp)
    have hs2 := hb2.size
    (try simp at hs2)
    have hB2 : Below w.heap.size w w2 := (by repeat' (first | with_reducible exact Below.refl _ _ | with_reducible assumption | with_reducible refine Below.alloc ?_ ?_ _ | with_reducible refine Below.setCell ?_ ?_ _ | with_reducible refine Below.drew ?_ | with_reducible refine below_drewN ?_ _ | with_reducible refine Below.trans ?_ (Below.mono (by with_reducible assumption) ?_) | omega | (simp <;> omega)))
    have hz2 : w1.heap.size < w2.heap.size := by omega
    have hy2 : w.heap.size < w2.heap.size := by omega
    have hG2 := hM.2.2
    have HM := hide hM
    have Hl := hide hl
    have Hwok := hide hwok
    clear hb2 hM hG hs2 hcc1 hff1 hb1 hws hl hwok Hm Hok Hmv
    obtain ⟨R, hR⟩ : ∃ R, R = redoL 3 8 2 ws := ⟨_, rfl⟩
    have hRl : R.length = 448 := by rw [hR, redoL_len]; exact Hl.out
    have hRok : ∀ x ∈ R, x.ok := by rw [hR]; exact redoL_ok 3 8 2 Hwok.out
    have hRR : redoL 3 8 2 R = R := by rw [hR]; exact redo_twice apart382 ws
    have hRs : seqsTo 3 8 2 R 3 = seqsTo 3 8 2 ws 3 := by rw [hR]; exact redo_seqs ws Hl.out
    have hRc : recsL 3 8 2 R 3 = true → ∀ n ∈ checkL 3 8 2 R, n ≠ 1 ∧ n ≠ 2 := by rw [hR]; exact check_twice ws Hl.out
    have him := fun W hs' hM' => image_ok 3 8 2 G 448 448 ws W valid382 hs' hM' Hl.out (by omega) (Nat.le_refl _) Hwok.out from382
    have him2 := fun (g cap : Nat) (hc : 448 ≤ cap) W hs' hM' => image_ok 3 8 2 g 448 cap R W valid382 hs' hM' hRl (by omega) hc hRok from382
    have hck := fun (g cap : Nat) (hc : 448 ≤ cap) W hs' hM' => vcheck_ok 3 8 2 g 448 cap R W valid382 hs' hM' hRl (by omega) hc hRok from382 (by decide) (by decide)
    have hsq := fun W hs' hM' => seqs_ok 3 8 2 G 448 448 ws W valid382 hs' hM' Hl.out (by omega) Hwok.out from382
    have hsq2 := fun (g cap : Nat) W hs' hM' => seqs_ok 3 8 2 g 448 cap R W valid382 hs' hM' hRl (by omega) hRok from382
    simp only [← hR, hRR] at him him2
    simp only [show (3 : Int).toNat = 3 from rfl] at hsq hsq2
    rw [hRs] at hsq2
    have Him := hide him
    have Him2 := hide him2
    have Hck := hide hck
    have Hsq := hide hsq
    have Hsq2 := hide hsq2
    have HRl := hide hRl
    have HRc := hide hRc
    have HRR := hide hRR
    clear him him2 hck hsq hsq2 hRl hRok hR hRc hRR hRs
    go_wp2_with fail
    refine (Him.out _ (hs.below (by repeat' (first | with_reducible exact Below.refl _ _ | with_reducible assumption | with_reducible refine Below.alloc ?_ ?_ _ | with_reducible refine Below.setCell ?_ ?_ _ | with_reducible refine Below.drew ?_ | with_reducible refine below_drewN ?_ _ | with_reducible refine Below.trans ?_ (Below.mono (by with_reducible assumption) ?_) | omega | (simp <;> omega)))) (HM.out.grow (by repeat' (first | with_reducible exact Below.refl _ _ | with_reducible assumption | with_reducible refine Below.alloc ?_ ?_ _ | with_reducible refine Below.setCell ?_ ?_ _ | with_reducible refine Below.drew ?_ | with_reducible refine below_drewN ?_ _ | with_reducible refine Below.trans ?_ (Below.mono (by with_reducible assumption) ?_) | omega | (simp <;> omega))))).mono ?_
    rintro e w3 hI
    obtain ⟨Ai, ni, ci, A, nr, cA, er, rfl, hb3, hcase⟩ := image_cases hI
    clear hI
    have hs3 := hb3.size
    have n0 := (hb3.cell (p := ⟨w1.heap.size, 0, none⟩) hz2).trans l0
    have n1 := (hb3.cell (p := ⟨w1.heap.size, 1, none⟩) hz2).trans l1
    have n2 := (hb3.cell (p := ⟨w1.heap.size, 2, none⟩) hz2).trans l2
    have hz3 : w1.heap.size < w3.heap.size := by omega
    have hB3 : Below w.heap.size w w3 := (by repeat' (first | with_reducible exact Below.refl _ _ | with_reducible assumption | with_reducible refine Below.alloc ?_ ?_ _ | with_reducible refine Below.setCell ?_ ?_ _ | with_reducible refine Below.drew ?_ | with_reducible refine below_drewN ?_ _ | with_reducible refine Below.trans ?_ (Below.mono (by with_reducible assumption) ?_) | omega | (simp <;> omega)))
    have HM3 := hide (HM.out.grow hb3)
    have HS3 := hide (hs.below hB3)
    clear HM hB2 l0 l1 l2 hb3
    obtain ⟨hrec, rfl, rfl, rfl, hci, ⟨gi, rfl, hMi⟩, hRr⟩ | ⟨-, rfl, rfl, rfl⟩ := hcase
    case inr =>
      go_wp2_with (first | (go_at_call 8; refine (awake_ok _ (hs.below (by repeat' (first | with_reducible exact Below.refl _ _ | with_reducible assumption | with_reducible refine Below.alloc ?_ ?_ _ | with_reducible refine Below.setCell ?_ ?_ _ | with_reducible refine Below.drew ?_ | with_reducible refine below_drewN ?_ _ | with_reducible refine Below.trans ?_ (Below.mono (by with_reducible assumption) ?_) | omega | (simp <;> omega))))).mono ?_; rintro e w9 ⟨rfl, hb9⟩; obtain ⟨hcc9, hff9⟩ := bcell hb9; have hs9 := hb9.size; (try simp at hs9)))
      go_ret
      exact ⟨rfl, (by repeat' (first | with_reducible exact Below.refl _ _ | with_reducible assumption | with_reducible refine Below.alloc ?_ ?_ _ | with_reducible refine Below.setCell ?_ ?_ _ | with_reducible refine Below.drew ?_ | with_reducible refine below_drewN ?_ _ | with_reducible refine Below.trans ?_ (Below.mono (by with_reducible assumption) ?_) | omega | (simp <;> omega)))⟩
    have HMi := hide hMi
    have HRr := hide hRr
    have hgi := hMi.2.2
    clear hMi hRr
    go_wp2_with fail
    refine (Him2.out gi ci hci _ (HS3.out.below (by repeat' (first | with_reducible exact Below.refl _ _ | with_reducible assumption | with_reducible refine Below.alloc ?_ ?_ _ | with_reducible refine Below.setCell ?_ ?_ _ | with_reducible refine Below.drew ?_ | with_reducible refine below_drewN ?_ _ | with_reducible refine Below.trans ?_ (Below.mono (by with_reducible assumption) ?_) | omega | (simp <;> omega)))) (HMi.out.grow (by repeat' (first | with_reducible exact Below.refl _ _ | with_reducible assumption | with_reducible refine Below.alloc ?_ ?_ _ | with_reducible refine Below.setCell ?_ ?_ _ | with_reducible refine Below.drew ?_ | with_reducible refine below_drewN ?_ _ | with_reducible refine Below.trans ?_ (Below.mono (by with_reducible assumption) ?_) | omega | (simp <;> omega))))).mono ?_
    rintro e w4 hI
    obtain ⟨Aj, nj, cj, A2, nr2, cA2, er2, rfl, hb4, hcase⟩ := image_cases hI
    clear hI
    obtain ⟨-, rfl, rfl, rfl, hcj, ⟨gj, rfl, hMj⟩, hRr2⟩ | ⟨q, -⟩ := hcase
    case inr => rw [hrec] at q; cases q
    have hs4 := hb4.size
    have p0 := (hb4.cell (p := ⟨w1.heap.size, 0, none⟩) hz3).trans n0
    have p1 := (hb4.cell (p := ⟨w1.heap.size, 1, none⟩) hz3).trans n1
    have p2 := (hb4.cell (p := ⟨w1.heap.size, 2, none⟩) hz3).trans n2
    have hz4 : w1.heap.size < w4.heap.size := by omega
    have hB4 : Below w.heap.size w w4 := (by repeat' (first | with_reducible exact Below.refl _ _ | with_reducible assumption | with_reducible refine Below.alloc ?_ ?_ _ | with_reducible refine Below.setCell ?_ ?_ _ | with_reducible refine Below.drew ?_ | with_reducible refine below_drewN ?_ _ | with_reducible refine Below.trans ?_ (Below.mono (by with_reducible assumption) ?_) | omega | (simp <;> omega)))
    have HM4 := hide (HM3.out.grow hb4)
    have HMi4 := hide (HMi.out.grow hb4)
    have HMj := hide hMj
    have HA4 := hide ((HRr.out.below hb4).more hs4)
    have HW4 := hide hRr2
    clear HM3 HMi hMj HRr hRr2 hb4 hB3 n0 n1 n2
    go_wp2_with (first
      | (go_at_call 12; refine (alike_same gi gj 448 _ _ R _ (HMi4.out.grow (by repeat' (first | with_reducible exact Below.refl _ _ | with_reducible assumption | with_reducible refine Below.alloc ?_ ?_ _ | with_reducible refine Below.setCell ?_ ?_ _ | with_reducible refine Below.drew ?_ | with_reducible refine below_drewN ?_ _ | with_reducible refine Below.trans ?_ (Below.mono (by with_reducible assumption) ?_) | omega | (simp <;> omega)))) (HMj.out.grow (by repeat' (first | with_reducible exact Below.refl _ _ | with_reducible assumption | with_reducible refine Below.alloc ?_ ?_ _ | with_reducible refine Below.setCell ?_ ?_ _ | with_reducible refine Below.drew ?_ | with_reducible refine below_drewN ?_ _ | with_reducible refine Below.trans ?_ (Below.mono (by with_reducible assumption) ?_) | omega | (simp <;> omega)))) HRl.out (by omega)).mono ?_; rintro e w5 ⟨rfl, hb5⟩; obtain ⟨hcc5, hff5⟩ := bcell hb5; have hs5 := hb5.size; (try simp at hs5)))
    have g0 := (hb5.cell (p := ⟨w1.heap.size, 0, none⟩) hz4).trans p0
    have g1 := (hb5.cell (p := ⟨w1.heap.size, 1, none⟩) hz4).trans p1
    have g2 := (hb5.cell (p := ⟨w1.heap.size, 2, none⟩) hz4).trans p2
    have hB5 : Below w.heap.size w w5 := (by repeat' (first | with_reducible exact Below.refl _ _ | with_reducible assumption | with_reducible refine Below.alloc ?_ ?_ _ | with_reducible refine Below.setCell ?_ ?_ _ | with_reducible refine Below.drew ?_ | with_reducible refine below_drewN ?_ _ | with_reducible refine Below.trans ?_ (Below.mono (by with_reducible assumption) ?_) | omega | (simp <;> omega)))
    have hz5 : w1.heap.size < w5.heap.size := by omega
    have HM5 := hide (HM4.out.grow hb5)
    have HMi5 := hide (HMi4.out.grow hb5)
    have HS5 := hide (hs.below hB5)
    have HA5 := hide ((HA4.out.below hb5).more hs5)
    have HW5 := hide ((HW4.out.below hb5).more hs5)
    clear hcc5 hff5 hb5 HM4 HMi4 HMj HA4 HW4 p0 p1 p2 hB4
    go_loopw [61] (fun i wr => ∃ j : Nat, i = .int .i64 j ∧ j ≤ 3 ∧ Below w5.heap.size w5 wr) (fun i _ => 3 - (intOf i).toNat)
    case atStart => exact ⟨0, rfl, by omega, (by repeat' (first | with_reducible exact Below.refl _ _ | with_reducible assumption | with_reducible refine Below.alloc ?_ ?_ _ | with_reducible refine Below.setCell ?_ ?_ _ | with_reducible refine Below.drew ?_ | with_reducible refine below_drewN ?_ _ | with_reducible refine Below.trans ?_ (Below.mono (by with_reducible assumption) ?_) | omega | (simp <;> omega)))⟩
    case round =>
      obtain ⟨j, rfl, hj, hBq⟩ := hrel
      have hsq := hBq.size
      by_cases hjl : j < 3
      · have hA : Rd w5 w5.heap.size 4 A 3 ((List.range 3).flatMap (fun i : Nat => repC ((i : Int) + 1) (askedL 3 8 2 R ((i : Int) + 1)))) := HA5.out
        have hW : Rd w5 w5.heap.size 4 A2 3 ((List.range 3).flatMap (fun i : Nat => repC ((i : Int) + 1) (askedL 3 8 2 R ((i : Int) + 1)))) := HW5.out
        obtain ⟨bA, oA, rfl, hbA, hcA⟩ := Rd.elem (hA.below hBq) (fun _ => rfl) hjl (a := j) (by rw [List.getElem?_range hjl])
        obtain ⟨bW, oW, rfl, hbW, hcW⟩ := Rd.elem (hW.below hBq) (fun _ => rfl) hjl (a := j) (by rw [List.getElem?_range hjl])
        obtain ⟨a, ha⟩ : ∃ a, a = askedL 3 8 2 R ((j : Int) + 1) := ⟨_, rfl⟩
        rw [← ha] at hcA hcW
        have a0 : wr.cell? ⟨bA, oA + j * 4, none⟩ = some (.int .i64 ((j : Int) + 1)) := hcA 0 _ rfl
        have a1 : wr.cell? ⟨bA, oA + j * 4 + 1, none⟩ = some (.int .i64 a.1) := hcA 1 _ rfl
        have a2 : wr.cell? ⟨bA, oA + j * 4 + 2, none⟩ = some (.int .i64 a.2.1) := hcA 2 _ rfl
        have a3 : wr.cell? ⟨bA, oA + j * 4 + 3, none⟩ = some (.int .i64 a.2.2.1) := hcA 3 _ rfl
        have c0 : wr.cell? ⟨bW, oW + j * 4, none⟩ = some (.int .i64 ((j : Int) + 1)) := hcW 0 _ rfl
        have c1 : wr.cell? ⟨bW, oW + j * 4 + 1, none⟩ = some (.int .i64 a.1) := hcW 1 _ rfl
        have c2 : wr.cell? ⟨bW, oW + j * 4 + 2, none⟩ = some (.int .i64 a.2.1) := hcW 2 _ rfl
        have c3 : wr.cell? ⟨bW, oW + j * 4 + 3, none⟩ = some (.int .i64 a.2.2.1) := hcW 3 _ rfl
        have hne := neqRep ((j : Int) + 1) a.1 a.2.1 a.2.2.1
        have hj0 : (0 : Int) ≤ (j : Int) := by omega
        have hj3 : (j : Int) < 3 := by omega
        clear hA hW hcA hcW ha
        go_wp2_with fail
        go_region_held3 (fun w' => w'.cell? ⟨bA, oA + j * 4, none⟩ = some (.int .i64 ((j : Int) + 1)) ∧ w'.cell? ⟨bA, oA + j * 4 + 1, none⟩ = some (.int .i64 a.1) ∧ w'.cell? ⟨bA, oA + j * 4 + 2, none⟩ = some (.int .i64 a.2.1) ∧ w'.cell? ⟨bA, oA + j * 4 + 3, none⟩ = some (.int .i64 a.2.2.1) ∧ w'.cell? ⟨bW, oW + j * 4, none⟩ = some (.int .i64 ((j : Int) + 1)) ∧ w'.cell? ⟨bW, oW + j * 4 + 1, none⟩ = some (.int .i64 a.1) ∧ w'.cell? ⟨bW, oW + j * 4 + 2, none⟩ = some (.int .i64 a.2.1) ∧ w'.cell? ⟨bW, oW + j * 4 + 3, none⟩ = some (.int .i64 a.2.2.1))
          (first | exact ⟨a0, a1, a2, a3, c0, c1, c2, c3⟩ | go_keep) (fail)
        go_wp2_with fail
        exact ⟨⟨j + 1, by go_num, by omega, (by repeat' (first | with_reducible exact Below.refl _ _ | with_reducible assumption | with_reducible refine Below.alloc ?_ ?_ _ | with_reducible refine Below.setCell ?_ ?_ _ | with_reducible refine Below.drew ?_ | with_reducible refine below_drewN ?_ _ | with_reducible refine Below.trans ?_ (Below.mono (by with_reducible assumption) ?_) | omega | (simp <;> omega)))⟩, by simp [intOf]; omega⟩
      · obtain rfl : j = 3 := by omega
        have hj33 : ¬ (((3 : Nat) : Int) < 3) := by decide
        have k0 := (hBq.cell (p := ⟨w1.heap.size, 0, none⟩) hz5).trans g0
        have k1 := (hBq.cell (p := ⟨w1.heap.size, 1, none⟩) hz5).trans g1
        have k2 := (hBq.cell (p := ⟨w1.heap.size, 2, none⟩) hz5).trans g2
        have HMiq := hide (HMi5.out.grow hBq)
        have hzq : w1.heap.size < wr.heap.size := by omega
        have HSq := hide (HS5.out.below hBq)
        obtain ⟨cl, hcl⟩ : ∃ cl, cl = checkL 3 8 2 R := ⟨_, rfl⟩
        have hgood := HRc.out hrec
        have hck := Hck.out gi ci hci
        have hcl5 : cl.length ≤ 5 := by rw [hcl]; exact outTo_len _ _
        rw [← hcl] at hgood hck
        have Hgood := hide hgood
        have Hck2 := hide hck
        clear hgood hck hcl
        go_wp2_with (first
          | (go_at_call 15; refine (Hck2.out _ (HSq.out.below (by repeat' (first | with_reducible exact Below.refl _ _ | with_reducible assumption | with_reducible refine Below.alloc ?_ ?_ _ | with_reducible refine Below.setCell ?_ ?_ _ | with_reducible refine Below.drew ?_ | with_reducible refine below_drewN ?_ _ | with_reducible refine Below.trans ?_ (Below.mono (by with_reducible assumption) ?_) | omega | (simp <;> omega)))) (HMiq.out.grow (by repeat' (first | with_reducible exact Below.refl _ _ | with_reducible assumption | with_reducible refine Below.alloc ?_ ?_ _ | with_reducible refine Below.setCell ?_ ?_ _ | with_reducible refine Below.drew ?_ | with_reducible refine below_drewN ?_ _ | with_reducible refine Below.trans ?_ (Below.mono (by with_reducible assumption) ?_) | omega | (simp <;> omega))))).mono ?_; rintro e w6 ⟨Q, capQ, rfl, hQ, -, hb6⟩))
        have hs6 := hb6.size
        have n0 := (hb6.cell (p := ⟨w1.heap.size, 0, none⟩) hzq).trans k0
        have n1 := (hb6.cell (p := ⟨w1.heap.size, 1, none⟩) hzq).trans k1
        have n2 := (hb6.cell (p := ⟨w1.heap.size, 2, none⟩) hzq).trans k2
        have hB6 : Below w.heap.size w w6 := hB5.trans ((hBq.trans (hb6.mono hsq)).mono (by omega))
        have HM6 := hide ((HM5.out.grow hBq).grow hb6)
        have HMi6 := hide (HMiq.out.grow hb6)
        have HS6 := hide (hs.below hB6)
        have HQ6 := hide hQ
        have hz6 : w1.heap.size < w6.heap.size := by omega
        clear hb6 k0 k1 k2 HMiq hQ hBq HM5 HMi5 HSq g0 g1 g2
        go_loopw [78] (fun i wr => ∃ j : Nat, i = .int .i64 j ∧ j ≤ cl.length ∧ Below w6.heap.size w6 wr) (fun i _ => cl.length - (intOf i).toNat)
        case atStart => exact ⟨0, rfl, by omega, (by repeat' (first | with_reducible exact Below.refl _ _ | with_reducible assumption | with_reducible refine Below.alloc ?_ ?_ _ | with_reducible refine Below.setCell ?_ ?_ _ | with_reducible refine Below.drew ?_ | with_reducible refine below_drewN ?_ _ | with_reducible refine Below.trans ?_ (Below.mono (by with_reducible assumption) ?_) | omega | (simp <;> omega)))⟩
        case round =>
          obtain ⟨j, rfl, hj, hBp⟩ := hrel
          have hsp := hBp.size
          by_cases hjl : j < cl.length
          · obtain ⟨z, hz⟩ : ∃ z, cl[j]? = some z := ⟨_, List.getElem?_eq_getElem hjl⟩
            obtain ⟨hz1, hz2⟩ := Hgood.out z (List.mem_of_getElem? hz)
            obtain ⟨bQ, oQ, rfl, hbQ, q0⟩ := rd_int (HQ6.out.below hBp) hjl hz
            have hj0 : (0 : Int) ≤ (j : Int) := by omega
            have hj1 : (j : Int) < (cl.length : Int) := by omega
            have hz3 : (z == 1) = false := by simpa using hz1
            have hz4 : (z == 2) = false := by simpa using hz2
            clear hz
            go_wp2_with fail
            exact ⟨⟨j + 1, by go_num, by omega, (by repeat' (first | with_reducible exact Below.refl _ _ | with_reducible assumption | with_reducible refine Below.alloc ?_ ?_ _ | with_reducible refine Below.setCell ?_ ?_ _ | with_reducible refine Below.drew ?_ | with_reducible refine below_drewN ?_ _ | with_reducible refine Below.trans ?_ (Below.mono (by with_reducible assumption) ?_) | omega | (simp <;> omega)))⟩, by simp [intOf]; omega⟩
          · obtain ⟨rfl⟩ : j = cl.length := by omega
            have hj33 : ¬ ((cl.length : Int) < (cl.length : Int)) := by omega
            have p0 := (hBp.cell (p := ⟨w1.heap.size, 0, none⟩) hz6).trans n0
            have p1 := (hBp.cell (p := ⟨w1.heap.size, 1, none⟩) hz6).trans n1
            have p2 := (hBp.cell (p := ⟨w1.heap.size, 2, none⟩) hz6).trans n2
            have HSp := hide (HS6.out.below hBp)
            have HMp := hide (HM6.out.grow hBp)
            have HMip := hide (HMi6.out.grow hBp)
            have hzp : w1.heap.size < wr.heap.size := by omega
            have hBw : Below w.heap.size w wr := hB6.trans (hBp.mono (by omega))
            have hlen : (seqsTo 3 8 2 ws 3).length = 3 := seqsTo_len _ _ _ _ _
            obtain ⟨sl3, hsl3⟩ : ∃ l, l = seqsTo 3 8 2 ws 3 := ⟨_, rfl⟩
            have hsqa := Hsq.out
            have hsqb := Hsq2.out gi ci
            rw [← hsl3] at hlen
            simp only [← hsl3] at hsqa hsqb
            have Hsqa := hide hsqa
            have Hsqb := hide hsqb
            clear hsqa hsqb hsl3 hBp
            go_upto_region 23 with fail
            go_cut [15, 16] (fun s15 s16 wx => ∃ (Q1 Q2 : Option Addr) (c1 c2 : Nat), s15 = .slice Q1 3 c1 ∧ s16 = .slice Q2 3 c2 ∧ Rd wx wx.heap.size 1 Q1 3 (sl3.map (Value.int .i64)) ∧ Rd wx wx.heap.size 1 Q2 3 (sl3.map (Value.int .i64)) ∧ Below w.heap.size w wx)
            case first =>
              refine wp_region_held_drew (S := (fun w' => w'.cell? ⟨w1.heap.size, 0, none⟩ = some (.int .i64 3) ∧ w'.cell? ⟨w1.heap.size, 1, none⟩ = some (.int .i64 8) ∧ w'.cell? ⟨w1.heap.size, 2, none⟩ = some (.int .i64 2))) (by kernel_rfl) (by first | exact ⟨by go_simp, by go_simp, by go_simp⟩) (fun hHeld => ?_)
              refine wpAnyH_take (i := 0) (v := ?_) (oi := { dst := some 89, op := Op.load 30 (Operand.tmp 3), type := 30, pos := "law.go:192", after := #[], guard := none }) (by rfl) (by kernel_rfl) (by kernel_rfl) (by kernel_rfl) (fun _ _ _ h => h) (Or.inl ⟨by rfl, ?_⟩) (by assumption) ?_; rotate_left; focus (intro w hSw; (try dsimp only at hSw); go_simp; (try with_reducible rfl); done)
              (try simp only [Act.put, List.setIfInBounds_toArray, List.set_cons_zero, List.set_cons_succ])
              refine wpAnyH_take (i := 1) (v := ?_) (oi := { dst := some 90, op := Op.move (Operand.tmp 4), type := 25, pos := "law.go:192", after := #[], guard := none }) (by rfl) (by kernel_rfl) (by kernel_rfl) (by kernel_rfl) (fun _ _ _ h => h) (Or.inl ⟨by rfl, ?_⟩) (by assumption) ?_; rotate_left; focus (intro w hSw; (try dsimp only at hSw); go_simp; (try with_reducible rfl); done)
              (try simp only [Act.put, List.setIfInBounds_toArray, List.set_cons_zero, List.set_cons_succ])
              refine wpAnyH_take (i := 3) (v := ?_) (oi := { dst := some 92, op := Op.load 30 (Operand.tmp 3), type := 30, pos := "law.go:192", after := #[], guard := none }) (by rfl) (by kernel_rfl) (by kernel_rfl) (by kernel_rfl) (fun _ _ _ h => h) (Or.inl ⟨by rfl, ?_⟩) (by assumption) ?_; rotate_left; focus (intro w hSw; (try dsimp only at hSw); go_simp; (try with_reducible rfl); done)
              (try simp only [Act.put, List.setIfInBounds_toArray, List.set_cons_zero, List.set_cons_succ])
              refine wpAnyH_take (i := 4) (v := ?_) (oi := { dst := some 93, op := Op.move (Operand.tmp 6), type := 25, pos := "law.go:192", after := #[], guard := none }) (by rfl) (by kernel_rfl) (by kernel_rfl) (by kernel_rfl) (fun _ _ _ h => h) (Or.inl ⟨by rfl, ?_⟩) (by assumption) ?_; rotate_left; focus (intro w hSw; (try dsimp only at hSw); go_simp; (try with_reducible rfl); done)
              (try simp only [Act.put, List.setIfInBounds_toArray, List.set_cons_zero, List.set_cons_succ])
              refine wpAnyH_ready (rs := [2]) (by kernel_rfl) (by simp) ?_
              refine AllReadyH.cons (o := { dst := some 91, op := Op.call { callee := Callee.value (Operand.func 13), args := #[Operand.tmp 89, Operand.tmp 90], argTypes := #[30, 25] }, type := 48, pos := "law.go:192", after := #[{ on := 0, ground := Ground.data }, { on := 1, ground := Ground.data }], guard := none }) (by rfl) (fun K hK => ?_) (AllReadyH.nil)
              go_simp
              (go_at_call 13; refine (Hsqa.out _ (HSp.out.below (by repeat' (first | with_reducible exact Below.refl _ _ | with_reducible assumption | with_reducible refine Below.alloc ?_ ?_ _ | with_reducible refine Below.setCell ?_ ?_ _ | with_reducible refine Below.drew ?_ | with_reducible refine below_drewN ?_ _ | with_reducible refine Below.trans ?_ (Below.mono (by with_reducible assumption) ?_) | omega | (simp <;> omega)))) (HMp.out.grow (by repeat' (first | with_reducible exact Below.refl _ _ | with_reducible assumption | with_reducible refine Below.alloc ?_ ?_ _ | with_reducible refine Below.setCell ?_ ?_ _ | with_reducible refine Below.drew ?_ | with_reducible refine below_drewN ?_ _ | with_reducible refine Below.trans ?_ (Below.mono (by with_reducible assumption) ?_) | omega | (simp <;> omega))))).mono ?_; rintro e w7 ⟨Q1, c1, rfl, hQ1, -, hb7'⟩; rw [hlen] at hQ1 ⊢; have hb7 : Below _ _ w7 := (by first | with_reducible exact noDrew hb7' | exact hb7'); clear hb7'; obtain ⟨hcc7, hff7⟩ := bcell hb7; have hs7 := hb7.size; (try simp at hs7); have hz7 : w1.heap.size < w7.heap.size := (by omega))
              go_wp2_with fail
              refine hK.out _ _ (by first | exact ⟨by go_simp, by go_simp, by go_simp⟩) (fun hHeld => ?_)
              clear hK K
              (try simp only [Act.put, List.setIfInBounds_toArray, List.set_cons_zero, List.set_cons_succ])
              refine wpAnyH_ready (rs := [5]) (by kernel_rfl) (by simp) ?_
              refine AllReadyH.cons (o := { dst := some 94, op := Op.call { callee := Callee.value (Operand.func 13), args := #[Operand.tmp 92, Operand.tmp 93], argTypes := #[30, 25] }, type := 48, pos := "law.go:192", after := #[{ on := 3, ground := Ground.data }, { on := 4, ground := Ground.data }, { on := 2, ground := Ground.chain }], guard := none }) (by rfl) (fun K hK => ?_) (AllReadyH.nil)
              go_simp
              (go_at_call 13; refine (Hsqb.out _ (HSp.out.below (by repeat' (first | with_reducible exact Below.refl _ _ | with_reducible assumption | with_reducible refine Below.alloc ?_ ?_ _ | with_reducible refine Below.setCell ?_ ?_ _ | with_reducible refine Below.drew ?_ | with_reducible refine below_drewN ?_ _ | with_reducible refine Below.trans ?_ (Below.mono (by with_reducible assumption) ?_) | omega | (simp <;> omega)))) (HMip.out.grow (by repeat' (first | with_reducible exact Below.refl _ _ | with_reducible assumption | with_reducible refine Below.alloc ?_ ?_ _ | with_reducible refine Below.setCell ?_ ?_ _ | with_reducible refine Below.drew ?_ | with_reducible refine below_drewN ?_ _ | with_reducible refine Below.trans ?_ (Below.mono (by with_reducible assumption) ?_) | omega | (simp <;> omega))))).mono ?_; rintro e w8 ⟨Q2, c2, rfl, hQ2, -, hb8'⟩; rw [hlen] at hQ2 ⊢; have hb8 : Below _ _ w8 := (by first | with_reducible exact noDrew hb8' | exact hb8'); clear hb8'; obtain ⟨hcc8, hff8⟩ := bcell hb8; have hs8 := hb8.size; (try simp at hs8); have hz8 : w1.heap.size < w8.heap.size := (by omega))
              go_wp2_with fail
              refine hK.out _ _ (by first | exact ⟨by go_simp, by go_simp, by go_simp⟩) (fun hHeld => ?_)
              clear hK K
              (try simp only [Act.put, List.setIfInBounds_toArray, List.set_cons_zero, List.set_cons_succ])
              refine wpAnyH_take (i := 6) (v := ?_) (oi := { dst := some 15, op := Op.assign (Operand.tmp 91), type := 48, pos := "law.go:192", after := #[{ on := 2, ground := Ground.data }, { on := 5, ground := Ground.chain }, { on := 0, ground := Ground.phase }, { on := 1, ground := Ground.phase }, { on := 2, ground := Ground.phase }, { on := 3, ground := Ground.textOnly Departure.lateStores }, { on := 4, ground := Ground.textOnly Departure.lateStores }, { on := 5, ground := Ground.textOnly Departure.lateStoresUnsure }], guard := none }) (by rfl) (by kernel_rfl) (by kernel_rfl) (by kernel_rfl) (fun _ _ _ h => h) (Or.inl ⟨by rfl, ?_⟩) (by assumption) ?_; rotate_left; focus (intro w hSw; (try dsimp only at hSw); go_simp; (try with_reducible rfl); done)
              (try simp only [Act.put, List.setIfInBounds_toArray, List.set_cons_zero, List.set_cons_succ])
              refine wpAnyH_take (i := 7) (v := ?_) (oi := { dst := some 16, op := Op.assign (Operand.tmp 94), type := 48, pos := "law.go:192", after := #[{ on := 5, ground := Ground.data }, { on := 6, ground := Ground.chain }, { on := 0, ground := Ground.phase }, { on := 1, ground := Ground.phase }, { on := 2, ground := Ground.phase }, { on := 3, ground := Ground.phase }, { on := 4, ground := Ground.phase }, { on := 5, ground := Ground.phase }, { on := 6, ground := Ground.phase }], guard := none }) (by rfl) (by kernel_rfl) (by kernel_rfl) (by kernel_rfl) (fun _ _ _ h => h) (Or.inl ⟨by rfl, ?_⟩) (by assumption) ?_; rotate_left; focus (intro w hSw; (try dsimp only at hSw); go_simp; (try with_reducible rfl); done)
              (try simp only [Act.put, List.setIfInBounds_toArray, List.set_cons_zero, List.set_cons_succ])
              refine wpAnyH_done (by kernel_rfl) ?_ _
              all_goals go_wp2_with fail
              all_goals go_meet
              all_goals first
                | exact ⟨Q1, Q2, c1, c2, rfl, rfl, (hQ1.below hb8).more hs8, hQ2, (by repeat' (first | with_reducible exact Below.refl _ _ | with_reducible assumption | with_reducible refine Below.alloc ?_ ?_ _ | with_reducible refine Below.setCell ?_ ?_ _ | with_reducible refine Below.drew ?_ | with_reducible refine below_drewN ?_ _ | with_reducible refine Below.trans ?_ (Below.mono (by with_reducible assumption) ?_) | omega | (simp <;> omega)))⟩
                | exact ⟨Q1, Q2, c1, c2, rfl, rfl, hQ1, (hQ2.below hb7).more hs7, (by repeat' (first | with_reducible exact Below.refl _ _ | with_reducible assumption | with_reducible refine Below.alloc ?_ ?_ _ | with_reducible refine Below.setCell ?_ ?_ _ | with_reducible refine Below.drew ?_ | with_reducible refine below_drewN ?_ _ | with_reducible refine Below.trans ?_ (Below.mono (by with_reducible assumption) ?_) | omega | (simp <;> omega)))⟩
            case rest =>
              obtain ⟨Q1, Q2, c1, c2, rfl, rfl, hQ1, hQ2, hBx⟩ := hcut
              obtain ⟨wx, hwx⟩ : ∃ wx : World, wx = wc := ⟨_, rfl⟩
              subst hwx
              have hsx := hBx.size
              have HQ1 := hide hQ1
              have HQ2 := hide hQ2
              clear hQ1 hQ2
              go_wp2_with fail
              go_loopw [97] (fun i wr => ∃ j : Nat, i = .int .i64 j ∧ j ≤ 3 ∧ Below wx.heap.size wx wr) (fun i _ => 3 - (intOf i).toNat)
              case atStart => exact ⟨0, rfl, by omega, (by repeat' (first | with_reducible exact Below.refl _ _ | with_reducible assumption | with_reducible refine Below.alloc ?_ ?_ _ | with_reducible refine Below.setCell ?_ ?_ _ | with_reducible refine Below.drew ?_ | with_reducible refine below_drewN ?_ _ | with_reducible refine Below.trans ?_ (Below.mono (by with_reducible assumption) ?_) | omega | (simp <;> omega)))⟩
              case round =>
                obtain ⟨j, rfl, hj, hBy⟩ := hrel
                have hsy := hBy.size
                by_cases hjl : j < 3
                · obtain ⟨z, hz⟩ : ∃ z, sl3[j]? = some z := ⟨_, List.getElem?_eq_getElem (by omega)⟩
                  obtain ⟨b1, o1, rfl, hb1', q1⟩ := rd_int (HQ1.out.below hBy) hjl hz
                  obtain ⟨b2, o2, rfl, hb2', q2⟩ := rd_int (HQ2.out.below hBy) hjl hz
                  have hj0 : (0 : Int) ≤ (j : Int) := by omega
                  have hj1 : (j : Int) < 3 := by omega
                  clear hz
                  go_wp2_with fail
                  go_region_held3 (fun w' => w'.cell? ⟨b1, o1 + j, none⟩ = some (.int .i64 z) ∧ w'.cell? ⟨b2, o2 + j, none⟩ = some (.int .i64 z))
                    (first | exact ⟨q1, q2⟩ | go_keep) (fail)
                  all_goals go_wp2_with fail
                  all_goals exact ⟨⟨j + 1, by go_num, by omega, (by repeat' (first | with_reducible exact Below.refl _ _ | with_reducible assumption | with_reducible refine Below.alloc ?_ ?_ _ | with_reducible refine Below.setCell ?_ ?_ _ | with_reducible refine Below.drew ?_ | with_reducible refine below_drewN ?_ _ | with_reducible refine Below.trans ?_ (Below.mono (by with_reducible assumption) ?_) | omega | (simp <;> omega)))⟩, by simp [intOf]; omega⟩
                · obtain rfl : j = 3 := by omega
                  have hj34 : ¬ (((3 : Nat) : Int) < 3) := by decide
                  have hBw : Below w.heap.size w wr := hBx.trans (hBy.mono (by omega))
                  go_wp2_with (first | (go_at_call 8; refine (awake_ok _ (hs.below (by repeat' (first | with_reducible exact Below.refl _ _ | with_reducible assumption | with_reducible refine Below.alloc ?_ ?_ _ | with_reducible refine Below.setCell ?_ ?_ _ | with_reducible refine Below.drew ?_ | with_reducible refine below_drewN ?_ _ | with_reducible refine Below.trans ?_ (Below.mono (by with_reducible assumption) ?_) | omega | (simp <;> omega))))).mono ?_; rintro e w9 ⟨rfl, hb9⟩; obtain ⟨hcc9, hff9⟩ := bcell hb9; have hs9 := hb9.size; (try simp at hs9)))
                  go_ret
                  exact ⟨rfl, (by repeat' (first | with_reducible exact Below.refl _ _ | with_reducible assumption | with_reducible refine Below.alloc ?_ ?_ _ | with_reducible refine Below.setCell ?_ ?_ _ | with_reducible refine Below.drew ?_ | with_reducible refine below_drewN ?_ _ | with_reducible refine Below.trans ?_ (Below.mono (by with_reducible assumption) ?_) | omega | (simp <;> omega)))⟩
theorem sizesMet {W : World} (h : laidMetH Tryd.prog Rows.reviveTwiceRow.laid W) : Sizes W := by
  have ht : Lib.TabIs Tryd.prog W "simulcast/layout.sizes" .i64 [8, 8, 8, 1, 104, 0, 32] := Lib.tabIs_of_head (g := 0) (rest := []) (by kernel_rfl) (by kernel_rfl) Tryd.underlying106 Tryd.underlying3 (by kernel_rfl) (by kernel_rfl) h
  intro k u hu
  have hk := (List.getElem?_eq_some_iff.1 hu).1
  have e : [8, 8, 8, 1, 104, 0, 32][k]'hk = u := (List.getElem?_eq_some_iff.1 hu).2
  rw [← e]
  exact (ht.cell (show Tryd.prog.globalNamed "simulcast/layout.sizes" = some 0 by kernel_rfl) k hk).trans (by rw [List.getD_eq_getElem?_getD, List.getElem?_eq_getElem hk]; rfl)
set_option maxRecDepth 100000 in
theorem walk : LawWalkL Tryd.prog 4 #[28] Rows.reviveTwiceRow.laid := by
  intro H enc W base args ds p hval hA hlt hL
  obtain ⟨v0, d0, rfl, rfl, h0⟩ := trodAll_one hA
  obtain ⟨m, rfl, hm, hok⟩ := rd_mem (hval 0 28 v0 rfl rfl) h0
  exact law_ok m W (sizesMet hL) hm hok
noncomputable def laidWorld (os : Os) : World :=
  { World.holding Tryd.prog os ⟨#[], #[], []⟩ with heap := (World.holding Tryd.prog os ⟨#[], #[], []⟩).heap.modify 0 fun
      | .cells _ t frozen => .cells #[.int .i64 8, .int .i64 8, .int .i64 8, .int .i64 1, .int .i64 104, .int .i64 0, .int .i64 32] t frozen
      | o => o }
theorem laid_met (os : Os) : laidMet Tryd.prog Rows.reviveTwiceRow.laid ((laidWorld os).forCall (fun _ _ => 0) ⟨#[], #[.agg #[.slice none 0 0, .slice none 0 0, .slice none 0 0, .slice none 0 0, .slice none 0 0]], []⟩).memory :=
  laidMet_of_run' 8 (by kernel_rfl) (by kernel_rfl)
theorem reads (os : Os) {H : Type} (enc : TypeId × Value → H) : ∃ places, DataW.whole enc Tryd.prog ((laidWorld os).forCall (fun _ _ => 0) ⟨#[], #[.agg #[.slice none 0 0, .slice none 0 0, .slice none 0 0, .slice none 0 0, .slice none 0 0]], []⟩).memory Tryd.f4.params.toList Rows.reviveTwiceSpec.vars false (#[.agg #[.slice none 0 0, .slice none 0 0, .slice none 0 0, .slice none 0 0, .slice none 0 0]] : Array Value).toList 8 = some ([.agg [.nil, .nil, .nil, .nil, .nil]], [], places) :=
  ⟨[], by kernel_rfl⟩
set_option maxRecDepth 100000 in
theorem lifted (os : Os) (started : os.Started) (H : Type) (enc : TypeId × Value → H) (F : Stop.Interp) :
    ReturnsInHanded {} Tryd.checked os 4 .any ((OpenSpec.ofChange Rows.reviveTwiceSpec).preRow enc Tryd.prog Tryd.f4 Rows.reviveTwiceRow.domain false Rows.reviveTwiceRow.laid) (((OpenSpec.ofChange Rows.reviveTwiceSpec).at F).post enc Tryd.prog Tryd.f4 false true false false) := by
  obtain ⟨places, hx⟩ := reads os enc
  refine returnsInHanded_of_row (C := Tryd.checked) (s := OpenSpec.ofChange Rows.reviveTwiceSpec) own started (by kernel_rfl) Tryd.func4
    (witness_row_at (enc := enc) (C := Tryd.checked) false (laidWorld os) #[.agg #[.slice none 0 0, .slice none 0 0, .slice none 0 0, .slice none 0 0, .slice none 0 0]] rfl (by kernel_rfl) (by kernel_rfl) (by kernel_rfl)
      (OpenSpec.preRow_of_cond 8 hx (by kernel_rfl) (fun k hk => by cases hk) (by kernel_rfl) (laid_met os))) ?_
  intro W base args ds gs before hval hW _ _ _ hL _ _
  exact law_contract (s := Rows.reviveTwiceSpec) (by kernel_rfl) (by kernel_rfl) Tryd.underlying4 (by kernel_rfl) ⟨rfl, fun H ds h => by match ds, h with | [d1], _ => exact ⟨rfl, rfl, rfl⟩⟩ (by rw [Tryd.params4]; exact walk) W base args ds gs before hval hW hL
theorem over : Rows.reviveTwiceRow.holds Tryd.pinned (OpenSpec.ofChange Rows.reviveTwiceSpec) :=
  OpenClaim.holds_of_cond 4 Tryd.f4 rfl rfl rfl rfl rfl rfl rfl ⟨rfl, rfl, rfl, rfl, rfl⟩ rfl rfl rfl rfl rfl (by kernel_rfl) Tryd.func4 (by kernel_rfl)
    (of_decide_eq_true (by kernel_rfl)) (by unfold Func.isWrapper; first | (rw [if_pos (by decide +kernel)]; kernel_rfl) | (rw [if_neg (by decide +kernel)]; exact ⟨rfl, rfl⟩))
    (fun os started H enc _ F => by rw [OpenClaim.pre_eq_preRow]; exact lifted os started H enc F)
theorem plainLaw (f : FuncId) (fn : Func) (hf : Tryd.pinned.checked.prog.funcNamed "simulcast/simulcastlaw56.ReviveTwice" = some f) (hfn : Tryd.pinned.checked.prog.funcs[f]? = some fn) :
    false = Tryd.pinned.checked.prog.looks [] ∧ ∀ (j : Nat) t, fn.params[j]? = some t → Tryd.pinned.checked.prog.wantsStandIn t = false := by
  obtain rfl : f = 4 := Option.some.inj ((show Tryd.prog.funcNamed "simulcast/simulcastlaw56.ReviveTwice" = some 4 by kernel_rfl).symm.trans hf) |>.symm
  obtain rfl : fn = Tryd.f4 := (Option.some.inj (Tryd.func4.symm.trans hfn)).symm
  refine ⟨by kernel_rfl, fun j t ht => ?_⟩
  rw [Tryd.params4] at ht
  have hm := Array.mem_of_getElem? ht
  have hall : ∀ t ∈ (#[28] : Array TypeId), Tryd.prog.wantsStandIn t = false := by
    intro t h
    simp only [List.mem_toArray, List.mem_cons, List.not_mem_nil, or_false] at h
    rcases h with rfl
    all_goals kernel_rfl
  exact hall t hm
theorem card : Rows.ReviveTwiceCardSaid :=
  Claim7.holds_tied_plain_at .later [] _ _ _ _ over (fun _ h => by cases h) (by kernel_rfl) (fun _ h => by cases h) reviveTwice_row_tie rfl ⟨rfl, rfl⟩ (by kernel_rfl) rfl plainLaw (by kernel_rfl)
theorem proved : Rows.ReviveTwiceCardSaid := card
end Go.Proofs.YtfldjbojonbmpaaDoor.lawTwice
