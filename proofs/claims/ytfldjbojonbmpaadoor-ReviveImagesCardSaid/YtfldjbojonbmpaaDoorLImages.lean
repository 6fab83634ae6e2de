/- ReviveImages: for every memory, Image and Seqs answer as the recovered words and the records say. -/
import Derived.Test.YtfldjbojonbmpaaDoorCards
import Derived.Test.YtfldjbojonbmpaaDoorTie
import Derived.Test.YtfldjbojonbmpaaDoorFr2
import Derived.Test.YtfldjbojonbmpaaDoorM6
import Derived.Test.YtfldjbojonbmpaaDoorMo
namespace Go.Proofs.YtfldjbojonbmpaaDoor.lawImages
set_option linter.unusedSimpArgs false
set_option linter.unusedVariables false
open Go.ChangeShapes Go.WideShapes Go.ChangeAt Go.RowKit
theorem own : ownKnob Tryd.prog.godebug = none := by kernel_rfl
theorem image_cases {R : List W3} {n : Nat} {w w' : World} {e : Ending} (h : ImagePost 3 8 2 R n w e w') : ∃ (Ai : Option Addr) (ni ci : Nat) (A : Option Addr) (nr cA : Nat) (er : Int), e = .returned (.tuple #[.slice Ai ni ci, .slice A nr cA, .int .i64 er]) ∧ Below w.heap.size w w' ∧
    ((recsL 3 8 2 R 3 = true ∧ er = 0 ∧ nr = 3 ∧ ni = n ∧ (∃ g : Nat, Ai = some ⟨g, 0, none⟩ ∧ Mem g R w') ∧ Rd w' w'.heap.size 4 A 3 (repsL 3 8 2 R 3)) ∨ (recsL 3 8 2 R 3 = false ∧ er = 5 ∧ ni = 0 ∧ nr = 0)) := by
  unfold ImagePost at h
  rw [show (3 : Int).toNat = 3 from rfl] at h
  split at h
  · rename_i hr
    obtain ⟨g, cap, A, capA, rfl, h1, -, -, -, h2, h3⟩ := h
    exact ⟨_, _, _, _, _, _, _, rfl, h3, .inl ⟨hr, rfl, rfl, rfl, ⟨g, rfl, h1⟩, h2⟩⟩
  · rename_i hr
    obtain ⟨rfl, h3⟩ := h
    exact ⟨_, _, _, _, _, _, _, rfl, h3, .inr ⟨by simpa using hr, rfl, rfl, rfl⟩⟩
set_option maxHeartbeats 8000000 in
set_option maxRecDepth 100000 in
theorem law_ok (m : MemArg) (w : World) (hs : Sizes w) (hm : m.In w w.heap.size) (hok : m.ok) : Calls Tryd.prog 3 #[m.val] w fun e w' => e = .returned (.bool true) ∧ Below w.heap.size w w' := by
  have hp := hs.pos
  obtain ⟨As, cs, sl, Ac, cc, ce, Ar, cr, re, Ao, co, ov, Aa, ca, ats⟩ := m
  obtain ⟨m, hmm⟩ : ∃ m, m = MemArg.mk As cs sl Ac cc ce Ar cr re Ao co ov Aa ca ats := ⟨_, rfl⟩
  rw [← hmm] at hm hok
  have hmv : m.val = .agg #[.slice As sl.length cs, .slice Ac ce.length cc, .slice Ar re.length cr, .slice Ao ov.length co, .slice Aa ats.length ca] := by rw [hmm]; rfl
  rw [← hmm, hmv]
  have Hm := hide hm
  have Hok := hide hok
  have Hmv := hide hmv
  clear hm hok hmv hmm
  go_enter Tryd.func3, Tryd.ntmps3
  go_wp2_with (first | (go_at_call 6; refine (plan_ok _).mono ?_; rintro e w1 ⟨rfl, hb1⟩; obtain ⟨hcc1, hff1⟩ := bcell hb1; have hs1 := hb1.size; (try simp at hs1); have hz1 : w.heap.size < w1.heap.size := (by omega)))
  rw [← Hmv.out]
  cases hf : m.fits with
  | false =>
    refine (make_no m _ (hs.below (by repeat' (first | with_reducible exact Below.refl _ _ | with_reducible assumption | with_reducible refine Below.alloc ?_ ?_ _ | with_reducible refine Below.setCell ?_ ?_ _ | with_reducible refine Below.drew ?_ | with_reducible refine below_drewN ?_ _ | with_reducible refine Below.trans ?_ (Below.mono (by with_reducible assumption) ?_) | omega | (simp <;> omega)))) hf).mono ?_
    rintro e w2 ⟨rfl, hb2⟩
    obtain ⟨hcc2, hff2⟩ := bcell hb2
    have hs2 := hb2.size
    (try simp at hs2)
    go_wp2_with (first | (go_at_call 8; refine (awake_ok _ (hs.below (by repeat' (first | with_reducible exact Below.refl _ _ | with_reducible assumption | with_reducible refine Below.alloc ?_ ?_ _ | with_reducible refine Below.setCell ?_ ?_ _ | with_reducible refine Below.drew ?_ | with_reducible refine below_drewN ?_ _ | with_reducible refine Below.trans ?_ (Below.mono (by with_reducible assumption) ?_) | omega | (simp <;> omega))))).mono ?_; rintro e w9 ⟨rfl, hb9⟩; obtain ⟨hcc9, hff9⟩ := bcell hb9; have hs9 := hb9.size; (try simp at hs9)))
    go_ret
    exact ⟨rfl, (by repeat' (first | with_reducible exact Below.refl _ _ | with_reducible assumption | with_reducible refine Below.alloc ?_ ?_ _ | with_reducible refine Below.setCell ?_ ?_ _ | with_reducible refine Below.drew ?_ | with_reducible refine below_drewN ?_ _ | with_reducible refine Below.trans ?_ (Below.mono (by with_reducible assumption) ?_) | omega | (simp <;> omega)))⟩
  | true =>
    refine (make_yes m _ (hs.below (by repeat' (first | with_reducible exact Below.refl _ _ | with_reducible assumption | with_reducible refine Below.alloc ?_ ?_ _ | with_reducible refine Below.setCell ?_ ?_ _ | with_reducible refine Below.drew ?_ | with_reducible refine below_drewN ?_ _ | with_reducible refine Below.trans ?_ (Below.mono (by with_reducible assumption) ?_) | omega | (simp <;> omega)))) hf ((Hm.out.below (by repeat' (first | with_reducible exact Below.refl _ _ | with_reducible assumption | with_reducible refine Below.alloc ?_ ?_ _ | with_reducible refine Below.setCell ?_ ?_ _ | with_reducible refine Below.drew ?_ | with_reducible refine below_drewN ?_ _ | with_reducible refine Below.trans ?_ (Below.mono (by with_reducible assumption) ?_) | omega | (simp <;> omega)))).more (by first | omega | (simp; omega))) Hok.out).mono ?_
    rintro e w2 ⟨G, rfl, hM, hG, hb2⟩
    obtain ⟨ws, hws⟩ : ∃ ws, ws = m.words := ⟨_, rfl⟩
    rw [← hws] at hM
    have hl : ws.length = 448 := by rw [hws]; exact m.len_words
    have hwok : ∀ x ∈ ws, x.ok := by rw [hws]; exact MemArg.ok_words Hok.out
    have l0 : w2.cell? ⟨w1.heap.size, 0, none⟩ = some (.int .i64 3) := (hb2.cell (p := ⟨w1.heap.size, 0, none⟩) (by simp)).trans (by go_simp)
    have l1 : w2.cell? ⟨w1.heap.size, 1, none⟩ = some (.int .i64 8) := (hb2.cell (p := ⟨w1.heap.size, 1, none⟩) (by simp)).trans (by go_simp)
    have l2 : w2.cell? ⟨w1.heap.size, 2, none⟩ = some (.int .i64 2) := (hb2.cell (p := ⟨w1.heap.size, 2, none⟩) (by simp)).trans (by go_simp)
    have hs2 := hb2.size
    (try simp at hs2)
    have hB2 : Below w.heap.size w w2 := (by repeat' (first | with_reducible exact Below.refl _ _ | with_reducible assumption | with_reducible refine Below.alloc ?_ ?_ _ | with_reducible refine Below.setCell ?_ ?_ _ | with_reducible refine Below.drew ?_ | with_reducible refine below_drewN ?_ _ | with_reducible refine Below.trans ?_ (Below.mono (by with_reducible assumption) ?_) | omega | (simp <;> omega)))
    have hz2 : w1.heap.size < w2.heap.size := by omega
    have hy2 : w.heap.size < w2.heap.size := by omega
    have hG2 := hM.2.2
    have HM := hide hM
    have Hl := hide hl
    have Hwok := hide hwok
    clear hb2 hM hG hs2 hcc1 hff1 hb1 hws hl hwok Hm Hok Hmv
    obtain ⟨R, hR⟩ : ∃ R, R = redoL 3 8 2 ws := ⟨_, rfl⟩
    have hRl : R.length = 448 := by rw [hR, redoL_len]; exact Hl.out
    have hRok : ∀ x ∈ R, x.ok := by rw [hR]; exact redoL_ok 3 8 2 Hwok.out
    have him := fun W hs' hM' => image_ok 3 8 2 G 448 448 ws W valid382 hs' hM' Hl.out (by omega) (Nat.le_refl _) Hwok.out from382
    have hwd := fun W hs' hM' => words_ok 3 8 2 G 448 448 ws W valid382 hs' hM' Hl.out (by omega) (Nat.le_refl _) Hwok.out from382
    have hsq := fun W hs' hM' => seqs_ok 3 8 2 G 448 448 ws W valid382 hs' hM' Hl.out (by omega) Hwok.out from382
    have hak := fun (t : Int) (ht0 : 1 ≤ t) (ht1 : t ≤ 3) (g cap' : Nat) (hc' : 448 ≤ cap') W hs' hM' => asked_ok 3 8 2 t g 448 cap' R W valid382 hs' hM' hRl (by omega) hc' hRok from382 ht0 ht1
    simp only [← hR] at him hwd
    have Him := hide him
    have Hwd := hide hwd
    have Hsq := hide hsq
    have Hak := hide hak
    have HRl := hide hRl
    clear him hwd hsq hak hRl hRok hR
    obtain ⟨i0, hi, iz0, iz1, iz2⟩ := info_parts info_rep
    go_wp2_with (first
      | (go_at_call 9; refine (Him.out _ (hs.below (by repeat' (first | with_reducible exact Below.refl _ _ | with_reducible assumption | with_reducible refine Below.alloc ?_ ?_ _ | with_reducible refine Below.setCell ?_ ?_ _ | with_reducible refine Below.drew ?_ | with_reducible refine below_drewN ?_ _ | with_reducible refine Below.trans ?_ (Below.mono (by with_reducible assumption) ?_) | omega | (simp <;> omega)))) (HM.out.grow (by repeat' (first | with_reducible exact Below.refl _ _ | with_reducible assumption | with_reducible refine Below.alloc ?_ ?_ _ | with_reducible refine Below.setCell ?_ ?_ _ | with_reducible refine Below.drew ?_ | with_reducible refine below_drewN ?_ _ | with_reducible refine Below.trans ?_ (Below.mono (by with_reducible assumption) ?_) | omega | (simp <;> omega))))).mono ?_; rintro e w3 hI; obtain ⟨Ai, ni, ci, A, nr, cA, er, rfl, hb3, hcase⟩ := image_cases hI; clear hI; obtain ⟨hcc3, hff3⟩ := bcell hb3; have hs3 := hb3.size; (try simp at hs3); have hz3 : w1.heap.size < w3.heap.size := (by omega))
      | (go_at_call 10; refine (Hwd.out _ (hs.below (by repeat' (first | with_reducible exact Below.refl _ _ | with_reducible assumption | with_reducible refine Below.alloc ?_ ?_ _ | with_reducible refine Below.setCell ?_ ?_ _ | with_reducible refine Below.drew ?_ | with_reducible refine below_drewN ?_ _ | with_reducible refine Below.trans ?_ (Below.mono (by with_reducible assumption) ?_) | omega | (simp <;> omega)))) (HM.out.grow (by repeat' (first | with_reducible exact Below.refl _ _ | with_reducible assumption | with_reducible refine Below.alloc ?_ ?_ _ | with_reducible refine Below.setCell ?_ ?_ _ | with_reducible refine Below.drew ?_ | with_reducible refine below_drewN ?_ _ | with_reducible refine Below.trans ?_ (Below.mono (by with_reducible assumption) ?_) | omega | (simp <;> omega))))).mono ?_; rintro e w4 ⟨g, cp, rfl, hMg, hg, hcp, hcm, hb4⟩; (try simp at hg); obtain ⟨hcc4, hff4⟩ := bcell hb4; have hs4 := hb4.size; (try simp at hs4)))
    have m0 : w4.cell? ⟨w1.heap.size, 0, none⟩ = some (.int .i64 3) := by go_simp
    have m1 : w4.cell? ⟨w1.heap.size, 1, none⟩ = some (.int .i64 8) := by go_simp
    have m2 : w4.cell? ⟨w1.heap.size, 2, none⟩ = some (.int .i64 2) := by go_simp
    have hz4 : w1.heap.size < w4.heap.size := by omega
    have hy4 : w.heap.size < w4.heap.size := by omega
    have hB4 : Below w.heap.size w w4 := (by repeat' (first | with_reducible exact Below.refl _ _ | with_reducible assumption | with_reducible refine Below.alloc ?_ ?_ _ | with_reducible refine Below.setCell ?_ ?_ _ | with_reducible refine Below.drew ?_ | with_reducible refine below_drewN ?_ _ | with_reducible refine Below.trans ?_ (Below.mono (by with_reducible assumption) ?_) | omega | (simp <;> omega)))
    have hB24 : Below w2.heap.size w2 w4 := hb3.trans (hb4.mono (by omega))
    have HM4 := hide (HM.out.grow hB24)
    have HG4 := hide hMg
    have HS4 := hide (hs.below hB4)
    have Hcase : Hid ((recsL 3 8 2 R 3 = true ∧ er = 0 ∧ nr = 3 ∧ ni = 448 ∧ (∃ g : Nat, Ai = some ⟨g, 0, none⟩ ∧ Mem g R w4) ∧ Rd w4 w4.heap.size 4 A 3 (repsL 3 8 2 R 3)) ∨ (recsL 3 8 2 R 3 = false ∧ er = 5 ∧ ni = 0 ∧ nr = 0)) := by
      rcases hcase with ⟨q1, q2, q3, q4, ⟨gi, q5, q6⟩, q7⟩ | q
      · exact .inl ⟨q1, q2, q3, q4, ⟨gi, q5, q6.grow hb4⟩, (q7.below hb4).more (by omega)⟩
      · exact .inr q
    clear hcase hMg hb4 hcc4 hff4 hb3 hcc3 hff3 l0 l1 l2 HM hg hB2 hB24
    go_loopw [12, 11, 10] (fun i v f wr => ∃ k : Nat, i = .int .i64 ((k : Int) + 1) ∧ k ≤ 3 ∧ f = .int .i64 (if recsL 3 8 2 R k = true then 0 else 5) ∧ wr.ownsRow w4.heap.size 46 4 v k (repsL 3 8 2 R k) ∧ Below w4.heap.size w4 wr) (fun i _ _ _ => 4 - (intOf i).toNat)
    case atStart => exact ⟨0, by go_num, by omega, rfl, World.ownsRow_nil _ _ _ _, (by repeat' (first | with_reducible exact Below.refl _ _ | with_reducible assumption | with_reducible refine Below.alloc ?_ ?_ _ | with_reducible refine Below.setCell ?_ ?_ _ | with_reducible refine Below.drew ?_ | with_reducible refine below_drewN ?_ _ | with_reducible refine Below.trans ?_ (Below.mono (by with_reducible assumption) ?_) | omega | (simp <;> omega)))⟩
    case round =>
      obtain ⟨k, rfl, hk, rfl, hown, hB⟩ := hrel
      obtain ⟨A0, cap0, rfl, hcp0, hbl0⟩ := own_slice hown
      have hsz := hB.size
      have f0 := (hB.cell (p := ⟨w1.heap.size, 0, none⟩) hz4).trans m0
      have f1 := (hB.cell (p := ⟨w1.heap.size, 1, none⟩) hz4).trans m1
      have f2 := (hB.cell (p := ⟨w1.heap.size, 2, none⟩) hz4).trans m2
      have HSr := hide (HS4.out.below hB)
      have HGr := hide (HG4.out.grow hB)
      have hzr : w1.heap.size < wr.heap.size := by omega
      have hyr : w4.heap.size ≤ wr.heap.size := by omega
      have hBr : Below w.heap.size w wr := hB4.trans (hB.mono (by omega))
      cases hrec : recsL 3 8 2 R k with
      | false =>
        rw [if_neg (by simp)]
        obtain ⟨q1, -⟩ | ⟨-, rfl, rfl, rfl⟩ := Hcase.out
        · rw [recsL_no hrec hk] at q1; cases q1
        · by_cases hlt : (k : Int) + 1 ≤ 3
          · go_wp2_with (first | (go_at_call 8; refine (awake_ok _ (hs.below (by repeat' (first | with_reducible exact Below.refl _ _ | with_reducible assumption | with_reducible refine Below.alloc ?_ ?_ _ | with_reducible refine Below.setCell ?_ ?_ _ | with_reducible refine Below.drew ?_ | with_reducible refine below_drewN ?_ _ | with_reducible refine Below.trans ?_ (Below.mono (by with_reducible assumption) ?_) | omega | (simp <;> omega))))).mono ?_; rintro e w9 ⟨rfl, hb9⟩; obtain ⟨hcc9, hff9⟩ := bcell hb9; have hs9 := hb9.size; (try simp at hs9)))
            go_ret
            exact ⟨rfl, (by repeat' (first | with_reducible exact Below.refl _ _ | with_reducible assumption | with_reducible refine Below.alloc ?_ ?_ _ | with_reducible refine Below.setCell ?_ ?_ _ | with_reducible refine Below.drew ?_ | with_reducible refine below_drewN ?_ _ | with_reducible refine Below.trans ?_ (Below.mono (by with_reducible assumption) ?_) | omega | (simp <;> omega)))⟩
          · go_wp2_with (first | (go_at_call 8; refine (awake_ok _ (hs.below (by repeat' (first | with_reducible exact Below.refl _ _ | with_reducible assumption | with_reducible refine Below.alloc ?_ ?_ _ | with_reducible refine Below.setCell ?_ ?_ _ | with_reducible refine Below.drew ?_ | with_reducible refine below_drewN ?_ _ | with_reducible refine Below.trans ?_ (Below.mono (by with_reducible assumption) ?_) | omega | (simp <;> omega))))).mono ?_; rintro e w9 ⟨rfl, hb9⟩; obtain ⟨hcc9, hff9⟩ := bcell hb9; have hs9 := hb9.size; (try simp at hs9)))
            go_ret
            exact ⟨rfl, (by repeat' (first | with_reducible exact Below.refl _ _ | with_reducible assumption | with_reducible refine Below.alloc ?_ ?_ _ | with_reducible refine Below.setCell ?_ ?_ _ | with_reducible refine Below.drew ?_ | with_reducible refine below_drewN ?_ _ | with_reducible refine Below.trans ?_ (Below.mono (by with_reducible assumption) ?_) | omega | (simp <;> omega)))⟩
      | true =>
        rw [if_pos rfl]
        by_cases hlt : k < 3
        · have hle : (k : Int) + 1 ≤ 3 := by omega
          have hrs := recsL_succ 3 8 2 R k
          rw [hrec, Bool.true_and] at hrs
          have hst := repsL_succ 3 8 2 R k
          have her := askedL_err 3 8 2 R ((k : Int) + 1)
          have hk1 := fun W hs' hM' => Hak.out ((k : Int) + 1) (by omega) hle g cp hcp W hs' hM'
          obtain ⟨⟨a0, a1, a2, a3⟩, ha⟩ : ∃ a, a = askedL 3 8 2 R ((k : Int) + 1) := ⟨_, rfl⟩
          rw [← ha] at hrs hst her
          simp only [← ha] at hk1
          simp only [AskedPost, repC] at hk1 hst hrs her
          have Hst := hide hst
          have Hk1 := hide hk1
          have hf5 : Hid ((if recsL 3 8 2 R (k + 1) = true then (0 : Int) else 5) = a3) := hide (by
            rw [hrs]
            rcases her with h | h <;> (rw [h]; rfl))
          clear hst hrs hk1 ha her
          go_wp2_with (first
            | (go_at_call 11; refine (Hk1.out _ (HSr.out.below (by repeat' (first | with_reducible exact Below.refl _ _ | with_reducible assumption | with_reducible refine Below.alloc ?_ ?_ _ | with_reducible refine Below.setCell ?_ ?_ _ | with_reducible refine Below.drew ?_ | with_reducible refine below_drewN ?_ _ | with_reducible refine Below.trans ?_ (Below.mono (by with_reducible assumption) ?_) | omega | (simp <;> omega)))) (HGr.out.grow (by repeat' (first | with_reducible exact Below.refl _ _ | with_reducible assumption | with_reducible refine Below.alloc ?_ ?_ _ | with_reducible refine Below.setCell ?_ ?_ _ | with_reducible refine Below.drew ?_ | with_reducible refine below_drewN ?_ _ | with_reducible refine Below.trans ?_ (Below.mono (by with_reducible assumption) ?_) | omega | (simp <;> omega))))).mono ?_; rintro e' w5 ⟨rfl, hb5⟩; obtain ⟨hcc5, hff5⟩ := bcell hb5; have hs5 := hb5.size; (try simp at hs5))
            | (at_builtin; refine wpList_append_rd rfl _ _ 35 rfl w4.heap.size 46 i0 _ 4 32 Tryd.underlying35 hi iz0 iz1 iz2 rfl (by decide) (.slice A0 k cap0) k (repsL 3 8 2 R k) rfl (own_below hown (by repeat' (first | with_reducible exact Below.refl _ _ | with_reducible assumption | with_reducible refine Below.alloc ?_ ?_ _ | with_reducible refine Below.setCell ?_ ?_ _ | with_reducible refine Below.drew ?_ | with_reducible refine below_drewN ?_ _ | with_reducible refine Below.trans ?_ (Below.mono (by with_reducible assumption) ?_) | omega | (simp <;> omega)))) (some ⟨w5.heap.size, 0, none⟩) 1 1 [.int .i64 ((k : Int) + 1), .int .i64 a0, .int .i64 a1, .int .i64 a2] rfl _ (rd_four (by go_simp) (by go_simp) (by go_simp) (by go_simp)) (by simp [Value.oneCell']) (by unfold maxLen; omega) (by omega) (by simp; omega) w4.heap.size w4 (by repeat' (first | with_reducible exact Below.refl _ _ | with_reducible assumption | with_reducible refine Below.alloc ?_ ?_ _ | with_reducible refine Below.setCell ?_ ?_ _ | with_reducible refine Below.drew ?_ | with_reducible refine below_drewN ?_ _ | with_reducible refine Below.trans ?_ (Below.mono (by with_reducible assumption) ?_) | omega | (simp <;> omega))) (Nat.le_refl _) ?_; intro v' w6 hown6 hb6 hsz6))
          exact ⟨⟨k + 1, by go_num, by omega, by rw [hf5.out], by rw [Hst.out]; exact hown6, (by repeat' (first | with_reducible exact Below.refl _ _ | with_reducible assumption | with_reducible refine Below.alloc ?_ ?_ _ | with_reducible refine Below.setCell ?_ ?_ _ | with_reducible refine Below.drew ?_ | with_reducible refine below_drewN ?_ _ | with_reducible refine Below.trans ?_ (Below.mono (by with_reducible assumption) ?_) | omega | (simp <;> omega)))⟩, by simp [intOf]; omega⟩
        · obtain rfl : k = 3 := by omega
          obtain ⟨-, rfl, rfl, rfl, ⟨gi, rfl, hMi⟩, hRr⟩ | ⟨q, -⟩ := Hcase.out
          · obtain ⟨Aw, capw, e1', hr⟩ := own_rd' hown
            injection e1' with e1' e2' e3'
            subst e1' e3'
            have HMi := hide (hMi.grow hB)
            have HRr := hide ((hRr.below hB).more hyr)
            have Hr := hide hr
            have HMr := hide (HM4.out.grow hB)
            clear hr hown hMi hRr
            have hle3 : ¬ (((3 : Nat) : Int) + 1 ≤ 3) := by decide
            go_wp2_with (first
              | (go_at_call 12; refine (alike_same gi g 448 _ _ R _ (HMi.out.grow (by repeat' (first | with_reducible exact Below.refl _ _ | with_reducible assumption | with_reducible refine Below.alloc ?_ ?_ _ | with_reducible refine Below.setCell ?_ ?_ _ | with_reducible refine Below.drew ?_ | with_reducible refine below_drewN ?_ _ | with_reducible refine Below.trans ?_ (Below.mono (by with_reducible assumption) ?_) | omega | (simp <;> omega)))) (HGr.out.grow (by repeat' (first | with_reducible exact Below.refl _ _ | with_reducible assumption | with_reducible refine Below.alloc ?_ ?_ _ | with_reducible refine Below.setCell ?_ ?_ _ | with_reducible refine Below.drew ?_ | with_reducible refine below_drewN ?_ _ | with_reducible refine Below.trans ?_ (Below.mono (by with_reducible assumption) ?_) | omega | (simp <;> omega)))) HRl.out (by omega)).mono ?_; rintro e w5 ⟨rfl, hb5⟩; obtain ⟨hcc5, hff5⟩ := bcell hb5; have hs5 := hb5.size; (try simp at hs5)))
            have g0 := (hb5.cell (p := ⟨w1.heap.size, 0, none⟩) hzr).trans f0
            have g1 := (hb5.cell (p := ⟨w1.heap.size, 1, none⟩) hzr).trans f1
            have g2 := (hb5.cell (p := ⟨w1.heap.size, 2, none⟩) hzr).trans f2
            have hB5 : Below w.heap.size w w5 := (by repeat' (first | with_reducible exact Below.refl _ _ | with_reducible assumption | with_reducible refine Below.alloc ?_ ?_ _ | with_reducible refine Below.setCell ?_ ?_ _ | with_reducible refine Below.drew ?_ | with_reducible refine below_drewN ?_ _ | with_reducible refine Below.trans ?_ (Below.mono (by with_reducible assumption) ?_) | omega | (simp <;> omega)))
            have hz5 : w1.heap.size < w5.heap.size := by omega
            have HM5 := hide (HMr.out.grow hb5)
            have HS5 := hide (hs.below hB5)
            have HA5 := hide ((HRr.out.below hb5).more hs5)
            have HW5 := hide ((Hr.out.below hb5).more hs5)
            clear hcc5 hff5 hb5 HMr HRr Hr HMi f0 f1 f2 hBr hB
            go_loopw [96] (fun i wr => ∃ j : Nat, i = .int .i64 j ∧ j ≤ 3 ∧ Below w5.heap.size w5 wr) (fun i _ => 3 - (intOf i).toNat)
            case atStart => exact ⟨0, rfl, by omega, (by repeat' (first | with_reducible exact Below.refl _ _ | with_reducible assumption | with_reducible refine Below.alloc ?_ ?_ _ | with_reducible refine Below.setCell ?_ ?_ _ | with_reducible refine Below.drew ?_ | with_reducible refine below_drewN ?_ _ | with_reducible refine Below.trans ?_ (Below.mono (by with_reducible assumption) ?_) | omega | (simp <;> omega)))⟩
            case round =>
              obtain ⟨j, rfl, hj, hBq⟩ := hrel
              have hsq := hBq.size
              by_cases hjl : j < 3
              · have hA : Rd w5 w5.heap.size 4 A 3 ((List.range 3).flatMap (fun i : Nat => repC ((i : Int) + 1) (askedL 3 8 2 R ((i : Int) + 1)))) := HA5.out
                have hW : Rd w5 w5.heap.size 4 A0 3 ((List.range 3).flatMap (fun i : Nat => repC ((i : Int) + 1) (askedL 3 8 2 R ((i : Int) + 1)))) := HW5.out
                obtain ⟨bA, oA, rfl, hbA, hcA⟩ := Rd.elem (hA.below hBq) (fun _ => rfl) hjl (a := j) (by rw [List.getElem?_range hjl])
                obtain ⟨bW, oW, rfl, hbW, hcW⟩ := Rd.elem (hW.below hBq) (fun _ => rfl) hjl (a := j) (by rw [List.getElem?_range hjl])
                obtain ⟨a, ha⟩ : ∃ a, a = askedL 3 8 2 R ((j : Int) + 1) := ⟨_, rfl⟩
                rw [← ha] at hcA hcW
                have a0 : wr.cell? ⟨bA, oA + j * 4, none⟩ = some (.int .i64 ((j : Int) + 1)) := hcA 0 _ rfl
                have a1 : wr.cell? ⟨bA, oA + j * 4 + 1, none⟩ = some (.int .i64 a.1) := hcA 1 _ rfl
                have a2 : wr.cell? ⟨bA, oA + j * 4 + 2, none⟩ = some (.int .i64 a.2.1) := hcA 2 _ rfl
                have a3 : wr.cell? ⟨bA, oA + j * 4 + 3, none⟩ = some (.int .i64 a.2.2.1) := hcA 3 _ rfl
                have c0 : wr.cell? ⟨bW, oW + j * 4, none⟩ = some (.int .i64 ((j : Int) + 1)) := hcW 0 _ rfl
                have c1 : wr.cell? ⟨bW, oW + j * 4 + 1, none⟩ = some (.int .i64 a.1) := hcW 1 _ rfl
                have c2 : wr.cell? ⟨bW, oW + j * 4 + 2, none⟩ = some (.int .i64 a.2.1) := hcW 2 _ rfl
                have c3 : wr.cell? ⟨bW, oW + j * 4 + 3, none⟩ = some (.int .i64 a.2.2.1) := hcW 3 _ rfl
                have hne := neqRep ((j : Int) + 1) a.1 a.2.1 a.2.2.1
                have hj0 : (0 : Int) ≤ (j : Int) := by omega
                have hj3 : (j : Int) < 3 := by omega
                clear hA hW hcA hcW ha
                go_wp2_with fail
                go_region_held3 (fun w' => w'.cell? ⟨bA, oA + j * 4, none⟩ = some (.int .i64 ((j : Int) + 1)) ∧ w'.cell? ⟨bA, oA + j * 4 + 1, none⟩ = some (.int .i64 a.1) ∧ w'.cell? ⟨bA, oA + j * 4 + 2, none⟩ = some (.int .i64 a.2.1) ∧ w'.cell? ⟨bA, oA + j * 4 + 3, none⟩ = some (.int .i64 a.2.2.1) ∧ w'.cell? ⟨bW, oW + j * 4, none⟩ = some (.int .i64 ((j : Int) + 1)) ∧ w'.cell? ⟨bW, oW + j * 4 + 1, none⟩ = some (.int .i64 a.1) ∧ w'.cell? ⟨bW, oW + j * 4 + 2, none⟩ = some (.int .i64 a.2.1) ∧ w'.cell? ⟨bW, oW + j * 4 + 3, none⟩ = some (.int .i64 a.2.2.1))
                  (first | exact ⟨a0, a1, a2, a3, c0, c1, c2, c3⟩ | go_keep) (fail)
                go_wp2_with fail
                exact ⟨⟨j + 1, by go_num, by omega, (by repeat' (first | with_reducible exact Below.refl _ _ | with_reducible assumption | with_reducible refine Below.alloc ?_ ?_ _ | with_reducible refine Below.setCell ?_ ?_ _ | with_reducible refine Below.drew ?_ | with_reducible refine below_drewN ?_ _ | with_reducible refine Below.trans ?_ (Below.mono (by with_reducible assumption) ?_) | omega | (simp <;> omega)))⟩, by simp [intOf]; omega⟩
              · obtain rfl : j = 3 := by omega
                have hj33 : ¬ (((3 : Nat) : Int) < 3) := by decide
                have k0 := (hBq.cell (p := ⟨w1.heap.size, 0, none⟩) hz5).trans g0
                have k1 := (hBq.cell (p := ⟨w1.heap.size, 1, none⟩) hz5).trans g1
                have k2 := (hBq.cell (p := ⟨w1.heap.size, 2, none⟩) hz5).trans g2
                have HMq := hide (HM5.out.grow hBq)
                have hzq : w1.heap.size < wr.heap.size := by omega
                have hlen : (seqsTo 3 8 2 ws 3).length = 3 := seqsTo_len _ _ _ _ _
                go_wp2_with (first
                  | (go_at_call 13; refine (Hsq.out _ (HS5.out.below (by repeat' (first | with_reducible exact Below.refl _ _ | with_reducible assumption | with_reducible refine Below.alloc ?_ ?_ _ | with_reducible refine Below.setCell ?_ ?_ _ | with_reducible refine Below.drew ?_ | with_reducible refine below_drewN ?_ _ | with_reducible refine Below.trans ?_ (Below.mono (by with_reducible assumption) ?_) | omega | (simp <;> omega)))) (HMq.out.grow (by repeat' (first | with_reducible exact Below.refl _ _ | with_reducible assumption | with_reducible refine Below.alloc ?_ ?_ _ | with_reducible refine Below.setCell ?_ ?_ _ | with_reducible refine Below.drew ?_ | with_reducible refine below_drewN ?_ _ | with_reducible refine Below.trans ?_ (Below.mono (by with_reducible assumption) ?_) | omega | (simp <;> omega))))).mono ?_; rw [show (3 : Int).toNat = 3 from rfl]; rintro e w6 ⟨Q, capQ, rfl, hQ, -, hb6⟩; rw [hlen] at hQ ⊢))
                obtain ⟨hcc6, hff6⟩ := bcell hb6
                have hs6 := hb6.size
                have n0 := (hb6.cell (p := ⟨w1.heap.size, 0, none⟩) hzq).trans k0
                have n1 := (hb6.cell (p := ⟨w1.heap.size, 1, none⟩) hzq).trans k1
                have n2 := (hb6.cell (p := ⟨w1.heap.size, 2, none⟩) hzq).trans k2
                have hB6 : Below w.heap.size w w6 := hB5.trans ((hBq.trans (hb6.mono hsq)).mono (by omega))
                have HM6 := hide (HMq.out.grow hb6)
                have HS6 := hide (hs.below hB6)
                have HQ6 := hide hQ
                have hz6 : w1.heap.size < w6.heap.size := by omega
                clear hcc6 hff6 hb6 k0 k1 k2 HMq hQ hBq
                go_loopw [17] (fun i wr => ∃ j : Nat, i = .int .i64 ((j : Int) + 1) ∧ j ≤ 3 ∧ Below w6.heap.size w6 wr) (fun i _ => 4 - (intOf i).toNat)
                case atStart => exact ⟨0, by go_num, by omega, (by repeat' (first | with_reducible exact Below.refl _ _ | with_reducible assumption | with_reducible refine Below.alloc ?_ ?_ _ | with_reducible refine Below.setCell ?_ ?_ _ | with_reducible refine Below.drew ?_ | with_reducible refine below_drewN ?_ _ | with_reducible refine Below.trans ?_ (Below.mono (by with_reducible assumption) ?_) | omega | (simp <;> omega)))⟩
                case round =>
                  obtain ⟨j, rfl, hj, hBp⟩ := hrel
                  have hsp := hBp.size
                  have p0 := (hBp.cell (p := ⟨w1.heap.size, 0, none⟩) hz6).trans n0
                  have p1 := (hBp.cell (p := ⟨w1.heap.size, 1, none⟩) hz6).trans n1
                  have p2 := (hBp.cell (p := ⟨w1.heap.size, 2, none⟩) hz6).trans n2
                  have HSp := hide (HS6.out.below hBp)
                  have hMp := HM6.out.grow hBp
                  have hGp := hMp.2.2
                  have hzp : w1.heap.size < wr.heap.size := by omega
                  have hBw : Below w.heap.size w wr := hB6.trans (hBp.mono (by omega))
                  by_cases hjl : j < 3
                  · have hj3 : (j : Int) + 1 ≤ 3 := by omega
                    have hj31 : (j : Int) < 3 := by omega
                    have hj0 : (0 : Int) ≤ (j : Int) := by omega
                    obtain ⟨p, hpp⟩ : ∃ p : Nat, atL 3 8 2 4 (j : Nat) 0 = (p : Int) := ⟨(atL 3 8 2 4 (j : Nat) 0).toNat, by
                      have := atL_in 3 8 2 valid382 4 (by decide) (j : Nat) 0 (by omega) (by show ((j : Nat) : Int) < (3 : Int); omega) (by decide) (by decide)
                      omega⟩
                    have hin := atL_in 3 8 2 valid382 4 (by decide) (j : Nat) 0 (by omega) (by show ((j : Nat) : Int) < (3 : Int); omega) (by decide) (by decide)
                    rw [hpp, from382] at hin
                    have hsl := fun W hs' => slot_ok 3 8 2 ((j : Int) + 1) W valid382 hs' (by omega) (by omega)
                    rw [show (j : Int) + 1 - 1 = (j : Nat) by omega] at hsl
                    simp only [hpp] at hsl
                    have hx := get_getD (ws := ws) (k := p) (by rw [Hl.out]; omega)
                    have hsj : (seqsTo 3 8 2 ws 3)[j]? = some ((ws.getD p z3).r + 1) := by
                      unfold seqsTo
                      rw [List.getElem?_map, List.getElem?_range hjl]
                      show some ((ws.getD (atL 3 8 2 4 (j : Nat) 0).toNat z3).r + 1) = _
                      rw [hpp, Int.toNat_natCast]
                    obtain ⟨x, hxx⟩ : ∃ x, x = ws.getD p z3 := ⟨_, rfl⟩
                    rw [← hxx] at hx hsj
                    obtain ⟨-, -, hx2, hx3, -, -⟩ := Hwok.out x (List.mem_of_getElem? hx)
                    have x1 := hMp.w1 hx
                    obtain ⟨bQ, oQ, rfl, hbQ, q0⟩ := rd_int (HQ6.out.below hBp) hjl hsj
                    have hwx : wrap64 x.r = x.r := by unfold wrap64; omega
                    have hwx1 : IntKind.i64.wrap (x.r + 1) = x.r + 1 := IntWalk.i64_in _ (by omega)
                    have hwj : IntKind.i64.wrap ((j : Int) + 1 - 1) = (j : Int) := by rw [show (j : Int) + 1 - 1 = (j : Int) by omega]; exact IntWalk.i64_in _ (by omega)
                    have hwj2 : IntKind.i64.wrap (j : Int) = (j : Int) := IntWalk.i64_in _ (by omega)
                    have hwx2 : IntKind.i64.wrap x.r = x.r := IntWalk.i64_in _ (by omega)
                    have hbQr : bQ < wr.heap.size := by omega
                    have Hsl := hide hsl
                    have hp448 : (p : Int) < 448 := hin.2
                    have hp0 : (0 : Int) ≤ (p : Int) := by omega
                    clear hsl hpp hx hxx hsj hMp hin
                    go_wp2_with fail
                    go_region_held3 (fun w' => w'.cell? ⟨w1.heap.size, 0, none⟩ = some (.int .i64 3) ∧ w'.cell? ⟨w1.heap.size, 1, none⟩ = some (.int .i64 8) ∧ w'.cell? ⟨w1.heap.size, 2, none⟩ = some (.int .i64 2) ∧ w'.cell? ⟨bQ, oQ + j, none⟩ = some (.int .i64 (x.r + 1)) ∧ w'.cell? ⟨G, p * 3 + 1, none⟩ = some (.int .u32 x.r))
                      (first | exact ⟨p0, p1, p2, q0, x1⟩ | exact ⟨(hcc7 _ _ hzp).trans p0, (hcc7 _ _ hzp).trans p1, (hcc7 _ _ hzp).trans p2, (hcc7 _ _ hbQr).trans q0, (hcc7 _ _ hGp).trans x1⟩)
                      (first | (go_at_call 14; refine (Hsl.out _ (HSp.out.below (by repeat' (first | with_reducible exact Below.refl _ _ | with_reducible assumption | with_reducible refine Below.alloc ?_ ?_ _ | with_reducible refine Below.setCell ?_ ?_ _ | with_reducible refine Below.drew ?_ | with_reducible refine below_drewN ?_ _ | with_reducible refine Below.trans ?_ (Below.mono (by with_reducible assumption) ?_) | omega | (simp <;> omega))))).mono ?_; rintro e' w7 ⟨rfl, hb7⟩; obtain ⟨hcc7, hff7⟩ := bcell hb7; have hs7 := hb7.size; (try simp at hs7)))
                    all_goals go_wp2_with fail
                    all_goals exact ⟨⟨j + 1, by go_num, by omega, (by repeat' (first | with_reducible exact Below.refl _ _ | with_reducible assumption | with_reducible refine Below.alloc ?_ ?_ _ | with_reducible refine Below.setCell ?_ ?_ _ | with_reducible refine Below.drew ?_ | with_reducible refine below_drewN ?_ _ | with_reducible refine Below.trans ?_ (Below.mono (by with_reducible assumption) ?_) | omega | (simp <;> omega)))⟩, by simp [intOf]; omega⟩
                  · obtain rfl : j = 3 := by omega
                    have hj33 : ¬ (((3 : Nat) : Int) + 1 ≤ 3) := by decide
                    go_wp2_with (first | (go_at_call 8; refine (awake_ok _ (hs.below (by repeat' (first | with_reducible exact Below.refl _ _ | with_reducible assumption | with_reducible refine Below.alloc ?_ ?_ _ | with_reducible refine Below.setCell ?_ ?_ _ | with_reducible refine Below.drew ?_ | with_reducible refine below_drewN ?_ _ | with_reducible refine Below.trans ?_ (Below.mono (by with_reducible assumption) ?_) | omega | (simp <;> omega))))).mono ?_; rintro e w9 ⟨rfl, hb9⟩; obtain ⟨hcc9, hff9⟩ := bcell hb9; have hs9 := hb9.size; (try simp at hs9)))
                    go_ret
                    exact ⟨rfl, (by repeat' (first | with_reducible exact Below.refl _ _ | with_reducible assumption | with_reducible refine Below.alloc ?_ ?_ _ | with_reducible refine Below.setCell ?_ ?_ _ | with_reducible refine Below.drew ?_ | with_reducible refine below_drewN ?_ _ | with_reducible refine Below.trans ?_ (Below.mono (by with_reducible assumption) ?_) | omega | (simp <;> omega)))⟩
          · rw [hrec] at q; cases q
theorem sizesMet {W : World} (h : laidMetH Tryd.prog Rows.reviveImagesRow.laid W) : Sizes W := by
  have ht : Lib.TabIs Tryd.prog W "simulcast/layout.sizes" .i64 [8, 8, 8, 1, 104, 0, 32] := Lib.tabIs_of_head (g := 0) (rest := []) (by kernel_rfl) (by kernel_rfl) Tryd.underlying106 Tryd.underlying3 (by kernel_rfl) (by kernel_rfl) h
  intro k u hu
  have hk := (List.getElem?_eq_some_iff.1 hu).1
  have e : [8, 8, 8, 1, 104, 0, 32][k]'hk = u := (List.getElem?_eq_some_iff.1 hu).2
  rw [← e]
  exact (ht.cell (show Tryd.prog.globalNamed "simulcast/layout.sizes" = some 0 by kernel_rfl) k hk).trans (by rw [List.getD_eq_getElem?_getD, List.getElem?_eq_getElem hk]; rfl)
set_option maxRecDepth 100000 in
theorem walk : LawWalkL Tryd.prog 3 #[28] Rows.reviveImagesRow.laid := by
  intro H enc W base args ds p hval hA hlt hL
  obtain ⟨v0, d0, rfl, rfl, h0⟩ := trodAll_one hA
  obtain ⟨m, rfl, hm, hok⟩ := rd_mem (hval 0 28 v0 rfl rfl) h0
  exact law_ok m W (sizesMet hL) hm hok
noncomputable def laidWorld (os : Os) : World :=
  { World.holding Tryd.prog os ⟨#[], #[], []⟩ with heap := (World.holding Tryd.prog os ⟨#[], #[], []⟩).heap.modify 0 fun
      | .cells _ t frozen => .cells #[.int .i64 8, .int .i64 8, .int .i64 8, .int .i64 1, .int .i64 104, .int .i64 0, .int .i64 32] t frozen
      | o => o }
theorem laid_met (os : Os) : laidMet Tryd.prog Rows.reviveImagesRow.laid ((laidWorld os).forCall (fun _ _ => 0) ⟨#[], #[.agg #[.slice none 0 0, .slice none 0 0, .slice none 0 0, .slice none 0 0, .slice none 0 0]], []⟩).memory :=
  laidMet_of_run' 8 (by kernel_rfl) (by kernel_rfl)
theorem reads (os : Os) {H : Type} (enc : TypeId × Value → H) : ∃ places, DataW.whole enc Tryd.prog ((laidWorld os).forCall (fun _ _ => 0) ⟨#[], #[.agg #[.slice none 0 0, .slice none 0 0, .slice none 0 0, .slice none 0 0, .slice none 0 0]], []⟩).memory Tryd.f3.params.toList Rows.reviveImagesSpec.vars false (#[.agg #[.slice none 0 0, .slice none 0 0, .slice none 0 0, .slice none 0 0, .slice none 0 0]] : Array Value).toList 8 = some ([.agg [.nil, .nil, .nil, .nil, .nil]], [], places) :=
  ⟨[], by kernel_rfl⟩
set_option maxRecDepth 100000 in
theorem lifted (os : Os) (started : os.Started) (H : Type) (enc : TypeId × Value → H) (F : Stop.Interp) :
    ReturnsInHanded {} Tryd.checked os 3 .any ((OpenSpec.ofChange Rows.reviveImagesSpec).preRow enc Tryd.prog Tryd.f3 Rows.reviveImagesRow.domain false Rows.reviveImagesRow.laid) (((OpenSpec.ofChange Rows.reviveImagesSpec).at F).post enc Tryd.prog Tryd.f3 false true false false) := by
  obtain ⟨places, hx⟩ := reads os enc
  refine returnsInHanded_of_row (C := Tryd.checked) (s := OpenSpec.ofChange Rows.reviveImagesSpec) own started (by kernel_rfl) Tryd.func3
    (witness_row_at (enc := enc) (C := Tryd.checked) false (laidWorld os) #[.agg #[.slice none 0 0, .slice none 0 0, .slice none 0 0, .slice none 0 0, .slice none 0 0]] rfl (by kernel_rfl) (by kernel_rfl) (by kernel_rfl)
      (OpenSpec.preRow_of_cond 8 hx (by kernel_rfl) (fun k hk => by cases hk) (by kernel_rfl) (laid_met os))) ?_
  intro W base args ds gs before hval hW _ _ _ hL _ _
  exact law_contract (s := Rows.reviveImagesSpec) (by kernel_rfl) (by kernel_rfl) Tryd.underlying4 (by kernel_rfl) ⟨rfl, fun H ds h => by match ds, h with | [d1], _ => exact ⟨rfl, rfl, rfl⟩⟩ (by rw [Tryd.params3]; exact walk) W base args ds gs before hval hW hL
theorem over : Rows.reviveImagesRow.holds Tryd.pinned (OpenSpec.ofChange Rows.reviveImagesSpec) :=
  OpenClaim.holds_of_cond 3 Tryd.f3 rfl rfl rfl rfl rfl rfl rfl ⟨rfl, rfl, rfl, rfl, rfl⟩ rfl rfl rfl rfl rfl (by kernel_rfl) Tryd.func3 (by kernel_rfl)
    (of_decide_eq_true (by kernel_rfl)) (by unfold Func.isWrapper; first | (rw [if_pos (by decide +kernel)]; kernel_rfl) | (rw [if_neg (by decide +kernel)]; exact ⟨rfl, rfl⟩))
    (fun os started H enc _ F => by rw [OpenClaim.pre_eq_preRow]; exact lifted os started H enc F)
theorem plainLaw (f : FuncId) (fn : Func) (hf : Tryd.pinned.checked.prog.funcNamed "simulcast/simulcastlaw56.ReviveImages" = some f) (hfn : Tryd.pinned.checked.prog.funcs[f]? = some fn) :
    false = Tryd.pinned.checked.prog.looks [] ∧ ∀ (j : Nat) t, fn.params[j]? = some t → Tryd.pinned.checked.prog.wantsStandIn t = false := by
  obtain rfl : f = 3 := Option.some.inj ((show Tryd.prog.funcNamed "simulcast/simulcastlaw56.ReviveImages" = some 3 by kernel_rfl).symm.trans hf) |>.symm
  obtain rfl : fn = Tryd.f3 := (Option.some.inj (Tryd.func3.symm.trans hfn)).symm
  refine ⟨by kernel_rfl, fun j t ht => ?_⟩
  rw [Tryd.params3] at ht
  have hm := Array.mem_of_getElem? ht
  have hall : ∀ t ∈ (#[28] : Array TypeId), Tryd.prog.wantsStandIn t = false := by
    intro t h
    simp only [List.mem_toArray, List.mem_cons, List.not_mem_nil, or_false] at h
    rcases h with rfl
    all_goals kernel_rfl
  exact hall t hm
theorem card : Rows.ReviveImagesCardSaid :=
  Claim7.holds_tied_plain_at .later [] _ _ _ _ over (fun _ h => by cases h) (by kernel_rfl) (fun _ h => by cases h) reviveImages_row_tie rfl ⟨rfl, rfl⟩ (by kernel_rfl) rfl plainLaw (by kernel_rfl)
theorem proved : Rows.ReviveImagesCardSaid := card
end Go.Proofs.YtfldjbojonbmpaaDoor.lawImages
