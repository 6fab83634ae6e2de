/- ReviveChecks: for every memory, Check answers just the violated invariants. -/
import Derived.Test.YtfldjbojonbmpaaDoorCards
import Derived.Test.YtfldjbojonbmpaaDoorTie
import Derived.Test.YtfldjbojonbmpaaDoorFr2
import Derived.Test.YtfldjbojonbmpaaDoorM6
import Derived.Test.YtfldjbojonbmpaaDoorMo
import Derived.Test.YtfldjbojonbmpaaDoorCk
namespace Go.Proofs.YtfldjbojonbmpaaDoor.lawChecks
set_option linter.unusedSimpArgs false
set_option linter.unusedVariables false
open Go.ChangeShapes Go.WideShapes Go.ChangeAt Go.RowKit Go.Maps
theorem own : ownKnob Tryd.prog.godebug = none := by kernel_rfl
set_option maxHeartbeats 8000000 in
set_option maxRecDepth 100000 in
theorem law_ok (m : MemArg) (w : World) (hs : Sizes w) (hm : m.In w w.heap.size) (hok : m.ok) : Calls Tryd.prog 5 #[m.val] w fun e w' => e = .returned (.bool true) ∧ Below w.heap.size w w' := by
  have hp := hs.pos
  obtain ⟨As, cs, sl, Ac, cc, ce, Ar, cr, re, Ao, co, ov, Aa, ca, ats⟩ := m
  obtain ⟨m, hmm⟩ : ∃ m, m = MemArg.mk As cs sl Ac cc ce Ar cr re Ao co ov Aa ca ats := ⟨_, rfl⟩
  rw [← hmm] at hm hok
  have hmv : m.val = .agg #[.slice As sl.length cs, .slice Ac ce.length cc, .slice Ar re.length cr, .slice Ao ov.length co, .slice Aa ats.length ca] := by rw [hmm]; rfl
  rw [← hmm, hmv]
  have Hm := hide hm
  have Hok := hide hok
  have Hmv := hide hmv
  clear hm hok hmv hmm
  go_enter Tryd.func5, Tryd.ntmps5
  go_wp2_with (first | (go_at_call 6; refine (plan_ok _).mono ?_; rintro e w1 ⟨rfl, hb1⟩; obtain ⟨hcc1, hff1⟩ := bcell hb1; have hs1 := hb1.size; (try simp at hs1); have hz1 : w.heap.size < w1.heap.size := (by omega)))
  rw [← Hmv.out]
  cases hf : m.fits with
  | false =>
    refine (make_no m _ (hs.below (by repeat' (first | with_reducible exact Below.refl _ _ | with_reducible assumption | with_reducible refine Below.alloc ?_ ?_ _ | with_reducible refine Below.setCell ?_ ?_ _ | with_reducible refine Below.drew ?_ | with_reducible refine below_drewN ?_ _ | with_reducible refine Below.trans ?_ (Below.mono (by with_reducible assumption) ?_) | omega | (simp <;> omega)))) hf).mono ?_
    rintro e w2 ⟨rfl, hb2⟩
    obtain ⟨hcc2, hff2⟩ := bcell hb2
    have hs2 := hb2.size
    (try simp at hs2)
    go_wp2_with (first | (go_at_call 8; refine (awake_ok _ (hs.below (by repeat' (first | with_reducible exact Below.refl _ _ | with_reducible assumption | with_reducible refine Below.alloc ?_ ?_ _ | with_reducible refine Below.setCell ?_ ?_ _ | with_reducible refine Below.drew ?_ | with_reducible refine below_drewN ?_ _ | with_reducible refine Below.trans ?_ (Below.mono (by with_reducible assumption) ?_) | omega | (simp <;> omega))))).mono ?_; rintro e w9 ⟨rfl, hb9⟩; obtain ⟨hcc9, hff9⟩ := bcell hb9; have hs9 := hb9.size; (try simp at hs9)))
    go_ret
    exact ⟨rfl, (by repeat' (first | with_reducible exact Below.refl _ _ | with_reducible assumption | with_reducible refine Below.alloc ?_ ?_ _ | with_reducible refine Below.setCell ?_ ?_ _ | with_reducible refine Below.drew ?_ | with_reducible refine below_drewN ?_ _ | with_reducible refine Below.trans ?_ (Below.mono (by with_reducible assumption) ?_) | omega | (simp <;> omega)))⟩
  | true =>
    refine (make_yes m _ (hs.below (by repeat' (first | with_reducible exact Below.refl _ _ | with_reducible assumption | with_reducible refine Below.alloc ?_ ?_ _ | with_reducible refine Below.setCell ?_ ?_ _ | with_reducible refine Below.drew ?_ | with_reducible refine below_drewN ?_ _ | with_reducible refine Below.trans ?_ (Below.mono (by with_reducible assumption) ?_) | omega | (simp <;> omega)))) hf ((Hm.out.below (by repeat' (first | with_reducible exact Below.refl _ _ | with_reducible assumption | with_reducible refine Below.alloc ?_ ?_ _ | with_reducible refine Below.setCell ?_ ?_ _ | with_reducible refine Below.drew ?_ | with_reducible refine below_drewN ?_ _ | with_reducible refine Below.trans ?_ (Below.mono (by with_reducible assumption) ?_) | omega | (simp <;> omega)))).more (by first | omega | (simp; omega))) Hok.out).mono ?_
    rintro e w2 ⟨G, rfl, hM, hG, hb2⟩
    obtain ⟨ws, hws⟩ : ∃ ws, ws = m.words := ⟨_, rfl⟩
    rw [← hws] at hM
    have hl : ws.length = 448 := by rw [hws]; exact m.len_words
    have hwok : ∀ x ∈ ws, x.ok := by rw [hws]; exact MemArg.ok_words Hok.out
    have l0 : w2.cell? ⟨w1.heap.size, 0, none⟩ = some (.int .i64 3) := (hb2.cell (p := ⟨w1.heap.size, 0, none⟩) (by simp)).trans (by go_simp)
    have l1 : w2.cell? ⟨w1.heap.size, 1, none⟩ = some (.int .i64 8) := (hb2.cell (p := ⟨w1.heap.size, 1, none⟩) (by simp)).trans (by go_simp)
    have l2 : w2.cell? ⟨w1.heap.size, 2, none⟩ = some (.int .i64 2) := (hb2.cell (p := ⟨w1.heap.size, 2, none⟩) (by simp)).trans (by go_simp)
    have hs2 := hb2.size
    (try simp at hs2)
    have hB2 : Below w.heap.size w w2 := (by repeat' (first | with_reducible exact Below.refl _ _ | with_reducible assumption | with_reducible refine Below.alloc ?_ ?_ _ | with_reducible refine Below.setCell ?_ ?_ _ | with_reducible refine Below.drew ?_ | with_reducible refine below_drewN ?_ _ | with_reducible refine Below.trans ?_ (Below.mono (by with_reducible assumption) ?_) | omega | (simp <;> omega)))
    have hz2 : w1.heap.size < w2.heap.size := by omega
    have hy2 : w.heap.size < w2.heap.size := by omega
    have hG2 := hM.2.2
    have HM := hide hM
    have Hl := hide hl
    have Hwok := hide hwok
    have HS2 := hide (hs.below hB2)
    have hp2 : 0 < w2.heap.size := by omega
    clear hb2 hM hG hs2 hcc1 hff1 hb1 hws hl hwok Hm Hok Hmv
    have hcl := fun W hs' hM' => clean_ok 3 8 2 G 448 448 ws W valid382 hs' hM' Hl.out (by omega) from382
    have hak := fun (t : Int) (ht0 : 1 ≤ t) (ht1 : t ≤ 3) W hs' hM' => asked_ok 3 8 2 t G 448 448 ws W valid382 hs' hM' Hl.out (by omega) (Nat.le_refl _) Hwok.out from382 ht0 ht1
    have hck := fun W hs' hM' => vcheck_ok 3 8 2 G 448 448 ws W valid382 hs' hM' Hl.out (by omega) (Nat.le_refl _) Hwok.out from382 (by decide) (by decide)
    simp only [ck_same ws Hwok.out Hl.out] at hck
    unfold ckL at hck
    obtain ⟨c0, hc0⟩ : ∃ c, c = cleanL 3 8 2 ws := ⟨_, rfl⟩
    obtain ⟨c1, hc1⟩ : ∃ c, c = recsL 3 8 2 ws 3 := ⟨_, rfl⟩
    obtain ⟨c2, hc2⟩ : ∃ c, c = stTo ws 5 := ⟨_, rfl⟩
    obtain ⟨c3, hc3⟩ : ∃ c, c = refBits (ws.getD (fromL 3 8 2 5).toNat z3) := ⟨_, rfl⟩
    obtain ⟨c4, hc4⟩ : ∃ c, c = clocksL ws := ⟨_, rfl⟩
    simp only [← hc0] at hcl
    rw [← hc0, ← hc1, ← hc2, ← hc3, ← hc4] at hck
    have Hcl := hide hcl
    have Hak := hide hak
    have Hck := hide hck
    have Hc1 := hide hc1
    have Hc2 := hide hc2
    have Hc3 := hide hc3
    have Hc4 := hide hc4
    clear hcl hak hck hc0 hc1 hc2 hc3 hc4
    have hmm := @run_makeMap Tryd.prog
    obtain ⟨i0, hi, iz0, iz1, iz2⟩ := info_parts info_int
    go_wp2_with (first
      | (go_at_call 16; refine (Hcl.out _ (HS2.out.below (by repeat' (first | with_reducible exact Below.refl _ _ | with_reducible assumption | with_reducible refine Below.alloc ?_ ?_ _ | with_reducible refine Below.setCell ?_ ?_ _ | with_reducible refine Below.drew ?_ | with_reducible refine below_drewN ?_ _ | with_reducible refine Below.trans ?_ (Below.mono (by with_reducible assumption) ?_) | omega | (simp <;> omega)))) (HM.out.grow (by repeat' (first | with_reducible exact Below.refl _ _ | with_reducible assumption | with_reducible refine Below.alloc ?_ ?_ _ | with_reducible refine Below.setCell ?_ ?_ _ | with_reducible refine Below.drew ?_ | with_reducible refine below_drewN ?_ _ | with_reducible refine Below.trans ?_ (Below.mono (by with_reducible assumption) ?_) | omega | (simp <;> omega))))).mono ?_; rintro e w3 ⟨rfl, hb3⟩; obtain ⟨hcc3, hff3⟩ := bcell hb3; have hs3 := hb3.size; (try simp at hs3); have HT3 := hide ((MapT.made_at (w := w2) rfl).below hb3))
      | (at_mapUpdate; obtain ⟨Dm, hownm, him, hatm⟩ := HT3.out; refine wpList_mapUpdate_own _ rfl _ _ _ 56 rfl 3 4 keyed_int Tryd.underlying56 _ w2.heap.size 0 Dm rfl hownm (by unfold maxLen; omega) _ _ (.int .i64 1) rfl rfl (keyOf_int_mk Tryd.underlying3 (by decide)) (.lit (.bool (!c0))) [] (plainElem_bool Tryd.underlying4 _) ?_; intro w4 hown4 hgrow4))
    have hB4 : Below w2.heap.size w2 w4 := Below.grown (w := w3) (by repeat' (first | with_reducible exact Below.refl _ _ | with_reducible assumption | with_reducible refine Below.alloc ?_ ?_ _ | with_reducible refine Below.setCell ?_ ?_ _ | with_reducible refine Below.drew ?_ | with_reducible refine below_drewN ?_ _ | with_reducible refine Below.trans ?_ (Below.mono (by with_reducible assumption) ?_) | omega | (simp <;> omega))) hgrow4 (by omega) (fun j hj => by cases hj; exact Nat.le_refl _)
    have HT4 : Hid (MapT w4 w2.heap.size 1 (fM (!c0) false false false false)) := hide (by rw [← fM_1 false]; exact MapT.put hown4 him (fun z wz => by rw [fM_0]; exact hatm z wz))
    have hs4 := hB4.size
    clear hown4 hgrow4 hownm him hatm HT3 hcc3 hff3 hb3 hs3
    go_loopw [7] (fun i wr => ∃ k : Nat, i = .int .i64 ((k : Int) + 1) ∧ k ≤ 3 ∧ MapT wr w2.heap.size (k + 1) (fM (!c0) (!recsL 3 8 2 ws k) false false false) ∧ Below w2.heap.size w2 wr) (fun i _ => 4 - (intOf i).toNat)
    case atStart => exact ⟨0, by go_num, by omega, HT4.out, hB4⟩
    case round =>
      obtain ⟨k, rfl, hk, hT, hB⟩ := hrel
      have HT := hide hT
      have hsz := hB.size
      have f0 := (hB.cell (p := ⟨w1.heap.size, 0, none⟩) hz2).trans l0
      have f1 := (hB.cell (p := ⟨w1.heap.size, 1, none⟩) hz2).trans l1
      have f2 := (hB.cell (p := ⟨w1.heap.size, 2, none⟩) hz2).trans l2
      have HSr := hide (HS2.out.below' hp2 hB)
      have HMr := hide (HM.out.below hB hG2)
      clear hT
      by_cases hlt : k < 3
      · have hle : (k : Int) + 1 ≤ 3 := by omega
        have hrs := recsL_succ 3 8 2 ws k
        have her := askedL_err 3 8 2 ws ((k : Int) + 1)
        have hk1 := fun W hs' hM' => Hak.out ((k : Int) + 1) (by omega) hle W hs' hM'
        obtain ⟨⟨a0, a1, a2, a3⟩, ha⟩ : ∃ a, a = askedL 3 8 2 ws ((k : Int) + 1) := ⟨_, rfl⟩
        rw [← ha] at hrs her
        simp only [← ha] at hk1
        simp only [AskedPost] at hk1 hrs her
        have Hk1 := hide hk1
        have Hrs := hide hrs
        clear hrs hk1 ha
        rcases her with rfl | rfl
        · go_wp2_with (first
            | (go_at_call 11; refine (Hk1.out _ (HSr.out.below (by repeat' (first | with_reducible exact Below.refl _ _ | with_reducible assumption | with_reducible refine Below.alloc ?_ ?_ _ | with_reducible refine Below.setCell ?_ ?_ _ | with_reducible refine Below.drew ?_ | with_reducible refine below_drewN ?_ _ | with_reducible refine Below.trans ?_ (Below.mono (by with_reducible assumption) ?_) | omega | (simp <;> omega)))) (HMr.out.grow (by repeat' (first | with_reducible exact Below.refl _ _ | with_reducible assumption | with_reducible refine Below.alloc ?_ ?_ _ | with_reducible refine Below.setCell ?_ ?_ _ | with_reducible refine Below.drew ?_ | with_reducible refine below_drewN ?_ _ | with_reducible refine Below.trans ?_ (Below.mono (by with_reducible assumption) ?_) | omega | (simp <;> omega))))).mono ?_; rintro e' w5 ⟨rfl, hb5⟩; obtain ⟨hcc5, hff5⟩ := bcell hb5; have hs5 := hb5.size; (try simp at hs5)))
          exact ⟨⟨k + 1, by go_num, by omega, by rw [Hrs.out, show ((0 : Int) == 0) = true from rfl, Bool.and_true]; exact (HT.out.below (by repeat' (first | with_reducible exact Below.refl _ _ | with_reducible assumption | with_reducible refine Below.alloc ?_ ?_ _ | with_reducible refine Below.setCell ?_ ?_ _ | with_reducible refine Below.drew ?_ | with_reducible refine below_drewN ?_ _ | with_reducible refine Below.trans ?_ (Below.mono (by with_reducible assumption) ?_) | omega | (simp <;> omega)))).mono (by omega), (by repeat' (first | with_reducible exact Below.refl _ _ | with_reducible assumption | with_reducible refine Below.alloc ?_ ?_ _ | with_reducible refine Below.setCell ?_ ?_ _ | with_reducible refine Below.drew ?_ | with_reducible refine below_drewN ?_ _ | with_reducible refine Below.trans ?_ (Below.mono (by with_reducible assumption) ?_) | omega | (simp <;> omega)))⟩, by simp [intOf]; omega⟩
        · go_wp2_with (first
            | (go_at_call 11; refine (Hk1.out _ (HSr.out.below (by repeat' (first | with_reducible exact Below.refl _ _ | with_reducible assumption | with_reducible refine Below.alloc ?_ ?_ _ | with_reducible refine Below.setCell ?_ ?_ _ | with_reducible refine Below.drew ?_ | with_reducible refine below_drewN ?_ _ | with_reducible refine Below.trans ?_ (Below.mono (by with_reducible assumption) ?_) | omega | (simp <;> omega)))) (HMr.out.grow (by repeat' (first | with_reducible exact Below.refl _ _ | with_reducible assumption | with_reducible refine Below.alloc ?_ ?_ _ | with_reducible refine Below.setCell ?_ ?_ _ | with_reducible refine Below.drew ?_ | with_reducible refine below_drewN ?_ _ | with_reducible refine Below.trans ?_ (Below.mono (by with_reducible assumption) ?_) | omega | (simp <;> omega))))).mono ?_; rintro e' w5 ⟨rfl, hb5⟩; obtain ⟨hcc5, hff5⟩ := bcell hb5; have hs5 := hb5.size; (try simp at hs5))
            | (at_mapUpdate; obtain ⟨Dm, hownm, him, hatm⟩ := HT.out; refine wpList_mapUpdate_own _ rfl _ _ _ 56 rfl 3 4 keyed_int Tryd.underlying56 _ w2.heap.size (k + 1) Dm rfl (hownm.kept (grown_of_below (by repeat' (first | with_reducible exact Below.refl _ _ | with_reducible assumption | with_reducible refine Below.alloc ?_ ?_ _ | with_reducible refine Below.setCell ?_ ?_ _ | with_reducible refine Below.drew ?_ | with_reducible refine below_drewN ?_ _ | with_reducible refine Below.trans ?_ (Below.mono (by with_reducible assumption) ?_) | omega | (simp <;> omega))) none) (by simp)) (by unfold maxLen; omega) _ _ (.int .i64 2) rfl rfl (keyOf_int_mk Tryd.underlying3 (by decide)) (.lit (.bool (true))) [] (plainElem_bool Tryd.underlying4 _) ?_; intro w6 hown6 hgrow6))
          have hB6 : Below w2.heap.size w2 w6 := Below.grown (by repeat' (first | with_reducible exact Below.refl _ _ | with_reducible assumption | with_reducible refine Below.alloc ?_ ?_ _ | with_reducible refine Below.setCell ?_ ?_ _ | with_reducible refine Below.drew ?_ | with_reducible refine below_drewN ?_ _ | with_reducible refine Below.trans ?_ (Below.mono (by with_reducible assumption) ?_) | omega | (simp <;> omega))) hgrow6 (by first | omega | (simp; omega)) (fun j hj => by cases hj; exact Nat.le_refl _)
          exact ⟨⟨k + 1, by go_num, by omega, by rw [Hrs.out, show ((5 : Int) == 0) = false from rfl, Bool.and_false, Bool.not_false, ← fM_2 (!recsL 3 8 2 ws k)]; exact MapT.put hown6 him hatm, hB6⟩, by simp [intOf]; omega⟩
      · obtain rfl : k = 3 := by omega
        have hle3 : ¬ (((3 : Nat) : Int) + 1 ≤ 3) := by decide
        rw [← Hc1.out] at HT
        go_wp2_with (first
          | (go_at_call 17; refine (holders_ok _).mono ?_; rintro e w7 ⟨g, rfl, hg, hg0, hg1, hb7⟩))
        have hB7 : Below w2.heap.size w2 w7 := (by repeat' (first | with_reducible exact Below.refl _ _ | with_reducible assumption | with_reducible refine Below.alloc ?_ ?_ _ | with_reducible refine Below.setCell ?_ ?_ _ | with_reducible refine Below.drew ?_ | with_reducible refine below_drewN ?_ _ | with_reducible refine Below.trans ?_ (Below.mono (by with_reducible assumption) ?_) | omega | (simp <;> omega)))
        have HT7 := hide (HT.out.below hb7)
        have hs7 := hB7.size
        have hmlt := HT.out.lt
        have hgne2 : (some w2.heap.size : Option Nat) ≠ some g := by
          intro h
          injection h with h
          omega
        clear hB hsz f0 f1 f2 HSr HMr HT hb7 HT4 hB4 hs4 hmlt
        go_loopw [53] (fun i wr => ∃ k : Nat, i = .int .i64 (k : Int) ∧ k ≤ 5 ∧ MapT wr w2.heap.size (k + 4) (fM (!c0) (!c1) (!stTo ws k) false false) ∧ (∀ k : Nat, k < 5 → wr.cell? ⟨g, k, none⟩ = some (.int .i64 (holdersL.getD k 0))) ∧ w7.heap.size ≤ wr.heap.size ∧ Below w2.heap.size w2 wr) (fun i _ => 5 - (intOf i).toNat)
        case atStart => exact ⟨0, by go_num, by omega, HT7.out, hg, by omega, hB7⟩
        case round =>
          obtain ⟨k, rfl, hk, hT, hgr, hsz7, hB⟩ := hrel
          have HT := hide hT
          have hsz := hB.size
          have f0 := (hB.cell (p := ⟨w1.heap.size, 0, none⟩) hz2).trans l0
          have f1 := (hB.cell (p := ⟨w1.heap.size, 1, none⟩) hz2).trans l1
          have f2 := (hB.cell (p := ⟨w1.heap.size, 2, none⟩) hz2).trans l2
          have HSr := hide (HS2.out.below' hp2 hB)
          have HMr := hide (HM.out.below hB hG2)
          clear hT
          by_cases hlt : k < 5
          · have hgk := hgr k hlt
            obtain ⟨p, hp1, hp2', hp3, hp4⟩ := place_at hlt
            have hst := stTo_succ ws k
            rw [hp1, Int.toNat_natCast] at hst
            have hpl := fun W hs' => place_ok 3 8 2 (holdersL.getD k 0) W valid382 hs' hp3 hp4
            rw [hp1, if_neg (by omega)] at hpl
            obtain ⟨who, hwho⟩ : ∃ q, q = holdersL.getD k 0 := ⟨_, rfl⟩
            obtain ⟨pn, hpn⟩ : ∃ q, q = placeN 3 8 2 (holdersL.getD k 0) := ⟨_, rfl⟩
            rw [← hpn, ← hwho] at hpl
            rw [← hwho] at hgk
            have hx := get_getD (ws := ws) (k := p) (by rw [Hl.out]; omega)
            obtain ⟨x, hxx⟩ : ∃ x, x = ws.getD p z3 := ⟨_, rfl⟩
            rw [← hxx] at hx hst
            have x0 := HMr.out.w0 hx
            have x1 := HMr.out.w1 hx
            have x2 := HMr.out.w2 hx
            have hGr := HMr.out.2.2
            have Hpl := hide hpl
            have Hst := hide hst
            have Hgr := hide hgr
            have hpI : (p : Int) < 448 := by omega
            have hpI0 : ¬ ((p : Int) < 0) := by omega
            have hpI1 : (0 : Int) ≤ (p : Int) := by omega
            have hgw : g < wr.heap.size := by omega
            have hk5 : (k : Int) < 5 := by omega
            have hk0 : (0 : Int) ≤ (k : Int) := by omega
            have hz1r : w1.heap.size < wr.heap.size := by omega
            clear hpl hst hgr hp1 hp3 hp4 hwho hpn hx hxx
            cases hq : decidedR x with
            | true =>
              rw [hq, Bool.and_true] at Hst
              go_wp2_with (first
                | (go_at_call 18; refine (Hpl.out _ (HSr.out.below (by repeat' (first | with_reducible exact Below.refl _ _ | with_reducible assumption | with_reducible refine Below.alloc ?_ ?_ _ | with_reducible refine Below.setCell ?_ ?_ _ | with_reducible refine Below.drew ?_ | with_reducible refine below_drewN ?_ _ | with_reducible refine Below.trans ?_ (Below.mono (by with_reducible assumption) ?_) | omega | (simp <;> omega))))).mono ?_; rintro e' w8 ⟨rfl, hb8⟩; obtain ⟨hcc8, hff8⟩ := bcell hb8; have hs8 := hb8.size; (try simp at hs8))
                | (go_at_call 19; refine (refstatus_any x _).mono ?_; rw [hq]; rintro e' w9 ⟨rfl, hb9⟩; have hs9 := hb9.size; (try simp at hs9)))
              have hb9w : Below wr.heap.size wr w9 := (by repeat' (first | with_reducible exact Below.refl _ _ | with_reducible assumption | with_reducible refine Below.alloc ?_ ?_ _ | with_reducible refine Below.setCell ?_ ?_ _ | with_reducible refine Below.drew ?_ | with_reducible refine below_drewN ?_ _ | with_reducible refine Below.trans ?_ (Below.mono (by with_reducible assumption) ?_) | omega | (simp <;> omega)))
              exact ⟨⟨k + 1, by go_num, by omega, by rw [Hst.out]; exact (HT.out.below hb9w).mono (by omega), fun j hj => (hb9w.cell (p := ⟨g, j, none⟩) hgw).trans (Hgr.out j hj), by omega, (by repeat' (first | with_reducible exact Below.refl _ _ | with_reducible assumption | with_reducible refine Below.alloc ?_ ?_ _ | with_reducible refine Below.setCell ?_ ?_ _ | with_reducible refine Below.drew ?_ | with_reducible refine below_drewN ?_ _ | with_reducible refine Below.trans ?_ (Below.mono (by with_reducible assumption) ?_) | omega | (simp <;> omega)))⟩, by simp [intOf]; omega⟩
            | false =>
              rw [hq, Bool.and_false] at Hst
              go_wp2_with (first
                | (go_at_call 18; refine (Hpl.out _ (HSr.out.below (by repeat' (first | with_reducible exact Below.refl _ _ | with_reducible assumption | with_reducible refine Below.alloc ?_ ?_ _ | with_reducible refine Below.setCell ?_ ?_ _ | with_reducible refine Below.drew ?_ | with_reducible refine below_drewN ?_ _ | with_reducible refine Below.trans ?_ (Below.mono (by with_reducible assumption) ?_) | omega | (simp <;> omega))))).mono ?_; rintro e' w8 ⟨rfl, hb8⟩; obtain ⟨hcc8, hff8⟩ := bcell hb8; have hs8 := hb8.size; (try simp at hs8))
                | (go_at_call 19; refine (refstatus_any x _).mono ?_; rw [hq]; rintro e' w9 ⟨rfl, hb9⟩; have hs9 := hb9.size; (try simp at hs9))
                | (at_mapUpdate; obtain ⟨Dm, hownm, him, hatm⟩ := HT.out; refine wpList_mapUpdate_own _ rfl _ _ _ 56 rfl 3 4 keyed_int Tryd.underlying56 _ w2.heap.size (k + 4) Dm rfl (hownm.kept (grown_of_below (by repeat' (first | with_reducible exact Below.refl _ _ | with_reducible assumption | with_reducible refine Below.alloc ?_ ?_ _ | with_reducible refine Below.setCell ?_ ?_ _ | with_reducible refine Below.drew ?_ | with_reducible refine below_drewN ?_ _ | with_reducible refine Below.trans ?_ (Below.mono (by with_reducible assumption) ?_) | omega | (simp <;> omega))) none) (by simp)) (by unfold maxLen; omega) _ _ (.int .i64 3) rfl rfl (keyOf_int_mk Tryd.underlying3 (by decide)) (.lit (.bool (true))) [] (plainElem_bool Tryd.underlying4 _) ?_; intro w6 hown6 hgrow6))
              have hb9w : Below wr.heap.size wr w9 := (by repeat' (first | with_reducible exact Below.refl _ _ | with_reducible assumption | with_reducible refine Below.alloc ?_ ?_ _ | with_reducible refine Below.setCell ?_ ?_ _ | with_reducible refine Below.drew ?_ | with_reducible refine below_drewN ?_ _ | with_reducible refine Below.trans ?_ (Below.mono (by with_reducible assumption) ?_) | omega | (simp <;> omega)))
              have hs6 := hgrow6.size
              have hB6 : Below w2.heap.size w2 w6 := Below.grown (w := w9) (by repeat' (first | with_reducible exact Below.refl _ _ | with_reducible assumption | with_reducible refine Below.alloc ?_ ?_ _ | with_reducible refine Below.setCell ?_ ?_ _ | with_reducible refine Below.drew ?_ | with_reducible refine below_drewN ?_ _ | with_reducible refine Below.trans ?_ (Below.mono (by with_reducible assumption) ?_) | omega | (simp <;> omega))) hgrow6 (by omega) (fun j hj => by cases hj; exact Nat.le_refl _)
              exact ⟨⟨k + 1, by go_num, by omega, by rw [Hst.out, Bool.not_false, ← fM_3 (!stTo ws k)]; exact MapT.put hown6 him hatm, fun j hj => (cell_grown hgrow6 (b := g) (by omega) hgne2 j).trans ((hb9w.cell (p := ⟨g, j, none⟩) hgw).trans (Hgr.out j hj)), by omega, hB6⟩, by simp [intOf]; omega⟩
          · obtain rfl : k = 5 := by omega
            have hle5 : ¬ (((5 : Nat) : Int) < 5) := by decide
            rw [← Hc2.out] at HT
            obtain ⟨X, hX, hX4⟩ : ∃ X : Nat, fromL 3 8 2 5 = (X : Int) ∧ X < 448 := ⟨(fromL 3 8 2 5).toNat, by decide +kernel, by decide +kernel⟩
            have hbt := fun W hs' => bits_any 3 8 2 0 W valid382 hs' (by decide) (by decide)
            rw [hX, show pw 0 = 1 from rfl, show ((0 : Nat) : Int) = 0 from rfl] at hbt
            have hx := get_getD (ws := ws) (k := X) (by rw [Hl.out]; omega)
            have h3 := Hc3.out
            rw [hX, Int.toNat_natCast] at h3
            obtain ⟨x, hxx⟩ : ∃ x, x = ws.getD X z3 := ⟨_, rfl⟩
            rw [← hxx] at hx h3
            have x0 := HMr.out.w0 hx
            have x1 := HMr.out.w1 hx
            have x2 := HMr.out.w2 hx
            have hGr := HMr.out.2.2
            have Hbt := hide hbt
            have H3 := hide h3
            have hpI : (X : Int) < 448 := by omega
            have hpI0 : ¬ ((X : Int) < 0) := by omega
            have hpI1 : (0 : Int) ≤ (X : Int) := by omega
            have hz1r : w1.heap.size < wr.heap.size := by omega
            clear hbt h3 hX hx hxx
            go_wp2_with (first
              | (go_at_call 20; refine (Hbt.out _ (HSr.out.below (by repeat' (first | with_reducible exact Below.refl _ _ | with_reducible assumption | with_reducible refine Below.alloc ?_ ?_ _ | with_reducible refine Below.setCell ?_ ?_ _ | with_reducible refine Below.drew ?_ | with_reducible refine below_drewN ?_ _ | with_reducible refine Below.trans ?_ (Below.mono (by with_reducible assumption) ?_) | omega | (simp <;> omega))))).mono ?_; rintro e' w8 ⟨rfl, hb8⟩; obtain ⟨hcc8, hff8⟩ := bcell hb8; have hs8 := hb8.size; (try simp at hs8))
              | (go_at_call 21; refine (refbits_any x _).mono ?_; rw [← H3.out]; rintro e' w9 ⟨rfl, hb9⟩; have hs9 := hb9.size; (try simp at hs9))
              | (at_mapUpdate; obtain ⟨Dm6, hownm6, him6, hatm6⟩ := HT.out; refine wpList_mapUpdate_own _ rfl _ _ _ 56 rfl 3 4 keyed_int Tryd.underlying56 _ w2.heap.size (5 + 4) Dm6 rfl (hownm6.kept (grown_of_below (by repeat' (first | with_reducible exact Below.refl _ _ | with_reducible assumption | with_reducible refine Below.alloc ?_ ?_ _ | with_reducible refine Below.setCell ?_ ?_ _ | with_reducible refine Below.drew ?_ | with_reducible refine below_drewN ?_ _ | with_reducible refine Below.trans ?_ (Below.mono (by with_reducible assumption) ?_) | omega | (simp <;> omega))) none) (by simp)) (by unfold maxLen; omega) _ _ (.int .i64 4) rfl rfl (keyOf_int_mk Tryd.underlying3 (by decide)) (.lit (.bool (!c3))) [] (plainElem_bool Tryd.underlying4 _) ?_; intro w6 hown6 hgrow6))
            have hB6 : Below w2.heap.size w2 w6 := Below.grown (w := w9) (by repeat' (first | with_reducible exact Below.refl _ _ | with_reducible assumption | with_reducible refine Below.alloc ?_ ?_ _ | with_reducible refine Below.setCell ?_ ?_ _ | with_reducible refine Below.drew ?_ | with_reducible refine below_drewN ?_ _ | with_reducible refine Below.trans ?_ (Below.mono (by with_reducible assumption) ?_) | omega | (simp <;> omega))) hgrow6 (by omega) (fun j hj => by cases hj; exact Nat.le_refl _)
            have HT6 : Hid (MapT w6 w2.heap.size 10 (fM (!c0) (!c1) (!c2) (!c3) false)) := hide (by rw [← fM_4 false]; exact MapT.put hown6 him6 hatm6)
            have hs6 := hB6.size
            clear hown6 hgrow6 hownm6 him6 hatm6 HT hcc8 hff8 hb8 hb9 hs9 hs8 x0 x1 x2 Hbt H3 hpI hpI0 hpI1 hX4 hGr hz1r f0 f1 f2 HSr HMr hgr hsz7 hB hsz
            have f0 := (hB6.cell (p := ⟨w1.heap.size, 0, none⟩) hz2).trans l0
            have f1 := (hB6.cell (p := ⟨w1.heap.size, 1, none⟩) hz2).trans l1
            have f2 := (hB6.cell (p := ⟨w1.heap.size, 2, none⟩) hz2).trans l2
            have HSr := hide (HS2.out.below' hp2 hB6)
            have hMr := HM.out.below hB6 hG2
            have hx := get_getD (ws := ws) (k := 0) (by rw [Hl.out]; omega)
            have hy := get_getD (ws := ws) (k := 1) (by rw [Hl.out]; omega)
            have h4 := Hc4.out
            unfold clocksL at h4
            obtain ⟨x, hxx⟩ : ∃ x, x = ws.getD 0 z3 := ⟨_, rfl⟩
            obtain ⟨y, hyy⟩ : ∃ x, x = ws.getD 1 z3 := ⟨_, rfl⟩
            rw [← hxx, ← hyy] at h4
            rw [← hxx] at hx
            rw [← hyy] at hy
            have x0 : w6.cell? ⟨G, 0, none⟩ = some (.int .i64 x.v) := by simpa using hMr.w0 hx
            have x1 : w6.cell? ⟨G, 1, none⟩ = some (.int .u32 x.r) := by simpa using hMr.w1 hx
            have x2 : w6.cell? ⟨G, 2, none⟩ = some (.int .u32 x.f) := by simpa using hMr.w2 hx
            have y0 : w6.cell? ⟨G, 3, none⟩ = some (.int .i64 y.v) := by simpa using hMr.w0 hy
            have y1 : w6.cell? ⟨G, 4, none⟩ = some (.int .u32 y.r) := by simpa using hMr.w1 hy
            have y2 : w6.cell? ⟨G, 5, none⟩ = some (.int .u32 y.f) := by simpa using hMr.w2 hy
            have hGr := hMr.2.2
            have hz1r : w1.heap.size < w6.heap.size := by omega
            have H4 := hide h4
            have hclk := fun W hs' => clock_ok 3 8 2 W valid382 hs'
            have hera := fun W hs' => era_ok 3 8 2 W valid382 hs'
            have htm := times_any x y
            rw [← h4] at htm
            have Hclk := hide hclk
            have Hera := hide hera
            have Htm := hide htm
            have hupd := fun (W : World) (h : Below w6.heap.size w6 W) => MapT.update5 (HT6.out.below h) (!c4)
            have Hupd := hide hupd
            clear hx hy hxx hyy h4 hMr hclk hera htm hupd
            go_frame
            go_cut [101] (fun _ wx => MapT wx w2.heap.size 11 (fM (!c0) (!c1) (!c2) (!c3) (!c4)) ∧ Below w2.heap.size w2 wx)
            case first =>
              refine wp_region_held_drew (S := (fun w' => (w'.cell? ⟨w1.heap.size, 0, none⟩ = some (.int .i64 3) ∧ w'.cell? ⟨w1.heap.size, 1, none⟩ = some (.int .i64 8) ∧ w'.cell? ⟨w1.heap.size, 2, none⟩ = some (.int .i64 2)) ∧ (w'.cell? ⟨G, 0, none⟩ = some (.int .i64 x.v) ∧ w'.cell? ⟨G, 1, none⟩ = some (.int .u32 x.r) ∧ w'.cell? ⟨G, 2, none⟩ = some (.int .u32 x.f)) ∧ w'.cell? ⟨G, 3, none⟩ = some (.int .i64 y.v) ∧ w'.cell? ⟨G, 4, none⟩ = some (.int .u32 y.r) ∧ w'.cell? ⟨G, 5, none⟩ = some (.int .u32 y.f))) (by kernel_rfl) (by first | exact ⟨⟨by go_simp, by go_simp, by go_simp⟩, ⟨by go_simp, by go_simp, by go_simp⟩, by go_simp, by go_simp, by go_simp⟩) (fun hHeld => ?_)
              refine wpAnyH_take (i := 0) (v := ?_) (oi := { dst := some 89, op := Op.move (Operand.tmp 6), type := 56, pos := "law.go:226", after := #[], guard := none }) (by rfl) (by kernel_rfl) (by kernel_rfl) (by kernel_rfl) (fun _ _ _ h => h) (Or.inl ⟨by rfl, ?_⟩) (by assumption) ?_; rotate_left; focus (intro w hSw; (try dsimp only at hSw); go_simp; (try with_reducible rfl); done)
              (try simp only [Act.put, List.setIfInBounds_toArray, List.set_cons_zero, List.set_cons_succ])
              refine wpAnyH_take (i := 1) (v := ?_) (oi := { dst := some 90, op := Op.move (Operand.tmp 4), type := 25, pos := "law.go:226", after := #[], guard := none }) (by rfl) (by kernel_rfl) (by kernel_rfl) (by kernel_rfl) (fun _ _ _ h => h) (Or.inl ⟨by rfl, ?_⟩) (by assumption) ?_; rotate_left; focus (intro w hSw; (try dsimp only at hSw); go_simp; (try with_reducible rfl); done)
              (try simp only [Act.put, List.setIfInBounds_toArray, List.set_cons_zero, List.set_cons_succ])
              refine wpAnyH_take (i := 2) (v := ?_) (oi := { dst := some 91, op := Op.load 30 (Operand.tmp 3), type := 30, pos := "law.go:226", after := #[], guard := none }) (by rfl) (by kernel_rfl) (by kernel_rfl) (by kernel_rfl) (fun _ _ _ h => h) (Or.inl ⟨by rfl, ?_⟩) (by assumption) ?_; rotate_left; focus (intro w hSw; (try dsimp only at hSw); go_simp; (try with_reducible rfl); done)
              (try simp only [Act.put, List.setIfInBounds_toArray, List.set_cons_zero, List.set_cons_succ])
              refine wpAnyH_take (i := 6) (v := ?_) (oi := { dst := some 95, op := Op.move (Operand.tmp 4), type := 25, pos := "law.go:226", after := #[], guard := none }) (by rfl) (by kernel_rfl) (by kernel_rfl) (by kernel_rfl) (fun _ _ _ h => h) (Or.inl ⟨by rfl, ?_⟩) (by assumption) ?_; rotate_left; focus (intro w hSw; (try dsimp only at hSw); go_simp; (try with_reducible rfl); done)
              (try simp only [Act.put, List.setIfInBounds_toArray, List.set_cons_zero, List.set_cons_succ])
              refine wpAnyH_take (i := 7) (v := ?_) (oi := { dst := some 96, op := Op.load 30 (Operand.tmp 3), type := 30, pos := "law.go:226", after := #[], guard := none }) (by rfl) (by kernel_rfl) (by kernel_rfl) (by kernel_rfl) (fun _ _ _ h => h) (Or.inl ⟨by rfl, ?_⟩) (by assumption) ?_; rotate_left; focus (intro w hSw; (try dsimp only at hSw); go_simp; (try with_reducible rfl); done)
              (try simp only [Act.put, List.setIfInBounds_toArray, List.set_cons_zero, List.set_cons_succ])
              refine wpAnyH_ready (rs := [3]) (by kernel_rfl) (by simp) ?_
              refine AllReadyH.cons (o := { dst := some 92, op := Op.call { callee := Callee.value (Operand.func 23), args := #[Operand.tmp 91], argTypes := #[30] }, type := 53, pos := "law.go:226", after := #[{ on := 2, ground := Ground.data }], guard := none }) (by rfl) (fun K hK => ?_) (AllReadyH.nil)
              go_simp
              (go_at_call 23; refine (Hclk.out _ (HSr.out.below (by repeat' (first | with_reducible exact Below.refl _ _ | with_reducible assumption | with_reducible refine Below.alloc ?_ ?_ _ | with_reducible refine Below.setCell ?_ ?_ _ | with_reducible refine Below.drew ?_ | with_reducible refine below_drewN ?_ _ | with_reducible refine Below.trans ?_ (Below.mono (by with_reducible assumption) ?_) | omega | (simp <;> omega))))).mono ?_; rintro e w10 ⟨rfl, hb10'⟩; have hb10 : Below _ _ w10 := (by first | with_reducible exact noDrew hb10' | exact hb10'); clear hb10'; obtain ⟨hcc10, hff10⟩ := bcell hb10; have hs10 := hb10.size; (try simp at hs10); have hz10 : w1.heap.size < w10.heap.size := (by omega); have hG10 : G < w10.heap.size := (by omega))
              go_wp2_with fail
              refine hK.out _ _ (by first | exact ⟨⟨by go_simp, by go_simp, by go_simp⟩, ⟨by go_simp, by go_simp, by go_simp⟩, by go_simp, by go_simp, by go_simp⟩) (fun hHeld => ?_)
              clear hK K
              (try simp only [Act.put, List.setIfInBounds_toArray, List.set_cons_zero, List.set_cons_succ])
              refine wpAnyH_take (i := 4) (v := ?_) (oi := { dst := some 93, op := Op.indexAddr 25 (Operand.tmp 90) (Operand.tmp 92), type := 0, pos := "law.go:226", after := #[{ on := 1, ground := Ground.data }, { on := 3, ground := Ground.data }], guard := none }) (by rfl) (by kernel_rfl) (by kernel_rfl) (by kernel_rfl) (fun _ _ _ h => h) (Or.inl ⟨by rfl, ?_⟩) (by assumption) ?_; rotate_left; focus (intro w hSw; (try dsimp only at hSw); go_simp; (try with_reducible rfl); done)
              (try simp only [Act.put, List.setIfInBounds_toArray, List.set_cons_zero, List.set_cons_succ])
              refine wpAnyH_take (i := 5) (v := ?_) (oi := { dst := some 94, op := Op.load 52 (Operand.tmp 93), type := 52, pos := "law.go:226", after := #[{ on := 4, ground := Ground.data }], guard := none }) (by rfl) (by kernel_rfl) (by kernel_rfl) (by kernel_rfl) (fun _ _ _ h => h) (Or.inl ⟨by rfl, ?_⟩) (by assumption) ?_; rotate_left; focus (intro w hSw; (try dsimp only at hSw); go_simp; (try with_reducible rfl); done)
              (try simp only [Act.put, List.setIfInBounds_toArray, List.set_cons_zero, List.set_cons_succ])
              refine wpAnyH_ready (rs := [8]) (by kernel_rfl) (by simp) ?_
              refine AllReadyH.cons (o := { dst := some 97, op := Op.call { callee := Callee.value (Operand.func 24), args := #[Operand.tmp 96], argTypes := #[30] }, type := 53, pos := "law.go:226", after := #[{ on := 7, ground := Ground.data }, { on := 3, ground := Ground.chain }], guard := none }) (by rfl) (fun K hK => ?_) (AllReadyH.nil)
              go_simp
              (go_at_call 24; refine (Hera.out _ (HSr.out.below (by repeat' (first | with_reducible exact Below.refl _ _ | with_reducible assumption | with_reducible refine Below.alloc ?_ ?_ _ | with_reducible refine Below.setCell ?_ ?_ _ | with_reducible refine Below.drew ?_ | with_reducible refine below_drewN ?_ _ | with_reducible refine Below.trans ?_ (Below.mono (by with_reducible assumption) ?_) | omega | (simp <;> omega))))).mono ?_; rintro e w11 ⟨rfl, hb11'⟩; have hb11 : Below _ _ w11 := (by first | with_reducible exact noDrew hb11' | exact hb11'); clear hb11'; obtain ⟨hcc11, hff11⟩ := bcell hb11; have hs11 := hb11.size; (try simp at hs11); have hz11 : w1.heap.size < w11.heap.size := (by omega); have hG11 : G < w11.heap.size := (by omega))
              go_wp2_with fail
              refine hK.out _ _ (by first | exact ⟨⟨by go_simp, by go_simp, by go_simp⟩, ⟨by go_simp, by go_simp, by go_simp⟩, by go_simp, by go_simp, by go_simp⟩) (fun hHeld => ?_)
              clear hK K
              (try simp only [Act.put, List.setIfInBounds_toArray, List.set_cons_zero, List.set_cons_succ])
              refine wpAnyH_take (i := 9) (v := ?_) (oi := { dst := some 98, op := Op.indexAddr 25 (Operand.tmp 95) (Operand.tmp 97), type := 0, pos := "law.go:226", after := #[{ on := 6, ground := Ground.data }, { on := 8, ground := Ground.data }], guard := none }) (by rfl) (by kernel_rfl) (by kernel_rfl) (by kernel_rfl) (fun _ _ _ h => h) (Or.inl ⟨by rfl, ?_⟩) (by assumption) ?_; rotate_left; focus (intro w hSw; (try dsimp only at hSw); go_simp; (try with_reducible rfl); done)
              (try simp only [Act.put, List.setIfInBounds_toArray, List.set_cons_zero, List.set_cons_succ])
              refine wpAnyH_take (i := 10) (v := ?_) (oi := { dst := some 99, op := Op.load 52 (Operand.tmp 98), type := 52, pos := "law.go:226", after := #[{ on := 9, ground := Ground.data }], guard := none }) (by rfl) (by kernel_rfl) (by kernel_rfl) (by kernel_rfl) (fun _ _ _ h => h) (Or.inl ⟨by rfl, ?_⟩) (by assumption) ?_; rotate_left; focus (intro w hSw; (try dsimp only at hSw); go_simp; (try with_reducible rfl); done)
              (try simp only [Act.put, List.setIfInBounds_toArray, List.set_cons_zero, List.set_cons_succ])
              refine wpAnyH_ready (rs := [11]) (by kernel_rfl) (by simp) ?_
              refine AllReadyH.cons (o := { dst := some 100, op := Op.call { callee := Callee.value (Operand.func 22), args := #[Operand.tmp 94, Operand.tmp 99], argTypes := #[52, 52] }, type := 4, pos := "law.go:226", after := #[{ on := 5, ground := Ground.data }, { on := 10, ground := Ground.data }, { on := 8, ground := Ground.chain }], guard := none }) (by rfl) (fun K hK => ?_) (AllReadyH.nil)
              go_simp
              (go_at_call 22; refine (Htm.out _).mono ?_; rintro e w12 ⟨rfl, hb12⟩; obtain ⟨hcc12, hff12⟩ := bcell hb12; have hs12 := hb12.size; (try simp at hs12); have hz12 : w1.heap.size < w12.heap.size := (by omega); have hG12 : G < w12.heap.size := (by omega))
              go_wp2_with fail
              refine hK.out _ _ (by first | exact ⟨⟨by go_simp, by go_simp, by go_simp⟩, ⟨by go_simp, by go_simp, by go_simp⟩, by go_simp, by go_simp, by go_simp⟩) (fun hHeld => ?_)
              clear hK K
              (try simp only [Act.put, List.setIfInBounds_toArray, List.set_cons_zero, List.set_cons_succ])
              refine wpAnyH_take (i := 12) (v := ?_) (oi := { dst := some 101, op := Op.unOp UnOp.not 4 (Operand.tmp 100), type := 4, pos := "law.go:226", after := #[{ on := 11, ground := Ground.data }], guard := none }) (by rfl) (by kernel_rfl) (by kernel_rfl) (by kernel_rfl) (fun _ _ _ h => h) (Or.inl ⟨by rfl, ?_⟩) (by assumption) ?_; rotate_left; focus (intro w hSw; (try dsimp only at hSw); go_simp; (try with_reducible rfl); done)
              (try simp only [Act.put, List.setIfInBounds_toArray, List.set_cons_zero, List.set_cons_succ])
              refine wpAnyH_ready (rs := [13]) (by kernel_rfl) (by simp) ?_
              refine AllReadyH.cons (o := { dst := none, op := Op.mapUpdate 56 (Operand.tmp 89) (Operand.const (Value.int IntKind.i64 5)) (Operand.tmp 101), type := 0, pos := "law.go:226", after := #[{ on := 0, ground := Ground.data }, { on := 12, ground := Ground.data }, { on := 11, ground := Ground.chain }, { on := 0, ground := Ground.phase }, { on := 1, ground := Ground.phase }, { on := 2, ground := Ground.phase }, { on := 3, ground := Ground.phase }, { on := 4, ground := Ground.phase }, { on := 5, ground := Ground.phase }, { on := 6, ground := Ground.phase }, { on := 7, ground := Ground.phase }, { on := 8, ground := Ground.phase }, { on := 9, ground := Ground.phase }, { on := 10, ground := Ground.phase }, { on := 11, ground := Ground.phase }, { on := 12, ground := Ground.phase }], guard := none }) (by rfl) (fun K hK => ?_) (AllReadyH.nil)
              go_simp
              (obtain ⟨w13, hrun13, hT13, hg13⟩ := Hupd.out w12 (by repeat' (first | with_reducible exact Below.refl _ _ | with_reducible assumption | with_reducible refine Below.alloc ?_ ?_ _ | with_reducible refine Below.setCell ?_ ?_ _ | with_reducible refine Below.drew ?_ | with_reducible refine below_drewN ?_ _ | with_reducible refine Below.trans ?_ (Below.mono (by with_reducible assumption) ?_) | omega | (simp <;> omega))); rw [hrun13]; have hB13 : Below w2.heap.size w2 w13 := Below.grown (w := w12) (by repeat' (first | with_reducible exact Below.refl _ _ | with_reducible assumption | with_reducible refine Below.alloc ?_ ?_ _ | with_reducible refine Below.setCell ?_ ?_ _ | with_reducible refine Below.drew ?_ | with_reducible refine below_drewN ?_ _ | with_reducible refine Below.trans ?_ (Below.mono (by with_reducible assumption) ?_) | omega | (simp <;> omega))) hg13 (by omega) (fun j hj => by cases hj; exact Nat.le_refl _); have hcc13 : ∀ b o, b < w2.heap.size → w13.cell? ⟨b, o, none⟩ = w12.cell? ⟨b, o, none⟩ := fun b o hb => cell_grown hg13 (by omega) (by intro h; injection h with h; omega) o; go_simp)
              go_wp2_with fail
              refine hK.out _ _ (by first | exact ⟨⟨by go_simp, by go_simp, by go_simp⟩, ⟨by go_simp, by go_simp, by go_simp⟩, by go_simp, by go_simp, by go_simp⟩) (fun hHeld => ?_)
              clear hK K
              (try simp only [Act.put, List.setIfInBounds_toArray, List.set_cons_zero, List.set_cons_succ])
              refine wpAnyH_done (by kernel_rfl) ?_ _
              all_goals go_wp2_with fail
              all_goals go_meet
              all_goals exact ⟨hT13, hB13⟩
            case rest =>
              obtain ⟨hTx, hBx⟩ := hcut
              obtain ⟨wx, hwx⟩ : ∃ wx : World, wx = wc := ⟨_, rfl⟩
              subst hwx
              have hsx := hBx.size
              have HTx := hide hTx
              have HSx := hide (HS2.out.below' hp2 hBx)
              have HMx := hide (HM.out.below hBx hG2)
              have hzx : w1.heap.size < wx.heap.size := by omega
              have g0 := (hBx.cell (p := ⟨w1.heap.size, 0, none⟩) hz2).trans l0
              have g1 := (hBx.cell (p := ⟨w1.heap.size, 1, none⟩) hz2).trans l1
              have g2 := (hBx.cell (p := ⟨w1.heap.size, 2, none⟩) hz2).trans l2
              have hBxw : Below w.heap.size w wx := hB2.trans (hBx.mono (by omega))
              obtain ⟨cs, hcs⟩ : ∃ cs, cs = [c0, c1, c2, c3, c4] := ⟨_, rfl⟩
              have hck := Hck.out
              rw [← hcs] at hck
              have Hckc := hide hck
              have Hcs := hide hcs
              clear hck hcs hTx Hclk Hera Htm Hupd H4 HT6 hB6 hs6 f0 f1 f2 HSr x0 x1 x2 y0 y1 y2 hGr hz1r
              go_wp2_with fail
              go_loopw [18, 17] (fun i v wr => ∃ k : Nat, i = .int .i64 ((k : Int) + 1) ∧ k ≤ 5 ∧ wr.ownsRow wx.heap.size 3 1 v (outTo cs k).length ((outTo cs k).map (Value.int .i64)) ∧ Below wx.heap.size wx wr) (fun i _ _ => 6 - (intOf i).toNat)
              case atStart => exact ⟨0, by go_num, by omega, World.ownsRow_nil _ _ _ _, (by repeat' (first | with_reducible exact Below.refl _ _ | with_reducible assumption | with_reducible refine Below.alloc ?_ ?_ _ | with_reducible refine Below.setCell ?_ ?_ _ | with_reducible refine Below.drew ?_ | with_reducible refine below_drewN ?_ _ | with_reducible refine Below.trans ?_ (Below.mono (by with_reducible assumption) ?_) | omega | (simp <;> omega)))⟩
              case round =>
                obtain ⟨k, rfl, hk, hown, hB⟩ := hrel
                obtain ⟨A0, cap0, rfl, hcp0, hbl0⟩ := own_slice hown
                have hsz := hB.size
                have hlen := outTo_len cs k
                have HTr := hide (HTx.out.below hB)
                by_cases hlt : k < 5
                · have hcase : k = 0 ∨ k = 1 ∨ k = 2 ∨ k = 3 ∨ k = 4 := by omega
                  rcases hcase with rfl | rfl | rfl | rfl | rfl
                  · cases c0 with
                    | true =>
                      have Hst : Hid (outTo cs (0 + 1) = outTo cs 0) := hide (by rw [outTo_succ, Hcs.out]; simp)
                      have hlook : (Instr.lookup 56 (.map (some w2.heap.size)) (.int .i64 1) false).run Tryd.prog wr = .ok (.bool false) wr := HTr.out.look (by decide)
                      go_wp2_with fail
                      exact ⟨⟨0 + 1, by go_num, by omega, by rw [Hst.out]; exact hown, (by repeat' (first | with_reducible exact Below.refl _ _ | with_reducible assumption | with_reducible refine Below.alloc ?_ ?_ _ | with_reducible refine Below.setCell ?_ ?_ _ | with_reducible refine Below.drew ?_ | with_reducible refine below_drewN ?_ _ | with_reducible refine Below.trans ?_ (Below.mono (by with_reducible assumption) ?_) | omega | (simp <;> omega)))⟩, by simp [intOf]⟩
                    | false =>
                      have Hst : Hid (outTo cs (0 + 1) = outTo cs 0 ++ [1]) := hide (by rw [outTo_succ, Hcs.out]; simp)
                      have hlook : (Instr.lookup 56 (.map (some w2.heap.size)) (.int .i64 1) false).run Tryd.prog wr = .ok (.bool true) wr := HTr.out.look (by decide)
                      go_wp2_with (first | (at_builtin; refine wpList_append_rd rfl _ _ 48 rfl wx.heap.size 3 i0 _ 1 8 Tryd.underlying48 hi iz0 iz1 iz2 rfl (by decide) (.slice A0 (outTo cs 0).length cap0) (outTo cs 0).length ((outTo cs 0).map (Value.int .i64)) rfl (own_below hown (by repeat' (first | with_reducible exact Below.refl _ _ | with_reducible assumption | with_reducible refine Below.alloc ?_ ?_ _ | with_reducible refine Below.setCell ?_ ?_ _ | with_reducible refine Below.drew ?_ | with_reducible refine below_drewN ?_ _ | with_reducible refine Below.trans ?_ (Below.mono (by with_reducible assumption) ?_) | omega | (simp <;> omega)))) (some ⟨wr.heap.size, 0, none⟩) 1 1 [.int .i64 (0 + 1)] rfl _ (rd_one (by go_simp)) (by simp [Value.oneCell']) (by unfold maxLen; omega) (by omega) (by simp; omega) wx.heap.size wx (by repeat' (first | with_reducible exact Below.refl _ _ | with_reducible assumption | with_reducible refine Below.alloc ?_ ?_ _ | with_reducible refine Below.setCell ?_ ?_ _ | with_reducible refine Below.drew ?_ | with_reducible refine below_drewN ?_ _ | with_reducible refine Below.trans ?_ (Below.mono (by with_reducible assumption) ?_) | omega | (simp <;> omega))) (Nat.le_refl _) ?_; intro v' w6 hown6 hb6 hsz6))
                      exact ⟨⟨0 + 1, by go_num, by omega, by rw [Hst.out, List.length_append, List.map_append]; exact hown6, (by repeat' (first | with_reducible exact Below.refl _ _ | with_reducible assumption | with_reducible refine Below.alloc ?_ ?_ _ | with_reducible refine Below.setCell ?_ ?_ _ | with_reducible refine Below.drew ?_ | with_reducible refine below_drewN ?_ _ | with_reducible refine Below.trans ?_ (Below.mono (by with_reducible assumption) ?_) | omega | (simp <;> omega)))⟩, by simp [intOf]⟩
                  · cases c1 with
                    | true =>
                      have Hst : Hid (outTo cs (1 + 1) = outTo cs 1) := hide (by rw [outTo_succ, Hcs.out]; simp)
                      have hlook : (Instr.lookup 56 (.map (some w2.heap.size)) (.int .i64 2) false).run Tryd.prog wr = .ok (.bool false) wr := HTr.out.look (by decide)
                      go_wp2_with fail
                      exact ⟨⟨1 + 1, by go_num, by omega, by rw [Hst.out]; exact hown, (by repeat' (first | with_reducible exact Below.refl _ _ | with_reducible assumption | with_reducible refine Below.alloc ?_ ?_ _ | with_reducible refine Below.setCell ?_ ?_ _ | with_reducible refine Below.drew ?_ | with_reducible refine below_drewN ?_ _ | with_reducible refine Below.trans ?_ (Below.mono (by with_reducible assumption) ?_) | omega | (simp <;> omega)))⟩, by simp [intOf]⟩
                    | false =>
                      have Hst : Hid (outTo cs (1 + 1) = outTo cs 1 ++ [2]) := hide (by rw [outTo_succ, Hcs.out]; simp)
                      have hlook : (Instr.lookup 56 (.map (some w2.heap.size)) (.int .i64 2) false).run Tryd.prog wr = .ok (.bool true) wr := HTr.out.look (by decide)
                      go_wp2_with (first | (at_builtin; refine wpList_append_rd rfl _ _ 48 rfl wx.heap.size 3 i0 _ 1 8 Tryd.underlying48 hi iz0 iz1 iz2 rfl (by decide) (.slice A0 (outTo cs 1).length cap0) (outTo cs 1).length ((outTo cs 1).map (Value.int .i64)) rfl (own_below hown (by repeat' (first | with_reducible exact Below.refl _ _ | with_reducible assumption | with_reducible refine Below.alloc ?_ ?_ _ | with_reducible refine Below.setCell ?_ ?_ _ | with_reducible refine Below.drew ?_ | with_reducible refine below_drewN ?_ _ | with_reducible refine Below.trans ?_ (Below.mono (by with_reducible assumption) ?_) | omega | (simp <;> omega)))) (some ⟨wr.heap.size, 0, none⟩) 1 1 [.int .i64 (1 + 1)] rfl _ (rd_one (by go_simp)) (by simp [Value.oneCell']) (by unfold maxLen; omega) (by omega) (by simp; omega) wx.heap.size wx (by repeat' (first | with_reducible exact Below.refl _ _ | with_reducible assumption | with_reducible refine Below.alloc ?_ ?_ _ | with_reducible refine Below.setCell ?_ ?_ _ | with_reducible refine Below.drew ?_ | with_reducible refine below_drewN ?_ _ | with_reducible refine Below.trans ?_ (Below.mono (by with_reducible assumption) ?_) | omega | (simp <;> omega))) (Nat.le_refl _) ?_; intro v' w6 hown6 hb6 hsz6))
                      exact ⟨⟨1 + 1, by go_num, by omega, by rw [Hst.out, List.length_append, List.map_append]; exact hown6, (by repeat' (first | with_reducible exact Below.refl _ _ | with_reducible assumption | with_reducible refine Below.alloc ?_ ?_ _ | with_reducible refine Below.setCell ?_ ?_ _ | with_reducible refine Below.drew ?_ | with_reducible refine below_drewN ?_ _ | with_reducible refine Below.trans ?_ (Below.mono (by with_reducible assumption) ?_) | omega | (simp <;> omega)))⟩, by simp [intOf]⟩
                  · cases c2 with
                    | true =>
                      have Hst : Hid (outTo cs (2 + 1) = outTo cs 2) := hide (by rw [outTo_succ, Hcs.out]; simp)
                      have hlook : (Instr.lookup 56 (.map (some w2.heap.size)) (.int .i64 3) false).run Tryd.prog wr = .ok (.bool false) wr := HTr.out.look (by decide)
                      go_wp2_with fail
                      exact ⟨⟨2 + 1, by go_num, by omega, by rw [Hst.out]; exact hown, (by repeat' (first | with_reducible exact Below.refl _ _ | with_reducible assumption | with_reducible refine Below.alloc ?_ ?_ _ | with_reducible refine Below.setCell ?_ ?_ _ | with_reducible refine Below.drew ?_ | with_reducible refine below_drewN ?_ _ | with_reducible refine Below.trans ?_ (Below.mono (by with_reducible assumption) ?_) | omega | (simp <;> omega)))⟩, by simp [intOf]⟩
                    | false =>
                      have Hst : Hid (outTo cs (2 + 1) = outTo cs 2 ++ [3]) := hide (by rw [outTo_succ, Hcs.out]; simp)
                      have hlook : (Instr.lookup 56 (.map (some w2.heap.size)) (.int .i64 3) false).run Tryd.prog wr = .ok (.bool true) wr := HTr.out.look (by decide)
                      go_wp2_with (first | (at_builtin; refine wpList_append_rd rfl _ _ 48 rfl wx.heap.size 3 i0 _ 1 8 Tryd.underlying48 hi iz0 iz1 iz2 rfl (by decide) (.slice A0 (outTo cs 2).length cap0) (outTo cs 2).length ((outTo cs 2).map (Value.int .i64)) rfl (own_below hown (by repeat' (first | with_reducible exact Below.refl _ _ | with_reducible assumption | with_reducible refine Below.alloc ?_ ?_ _ | with_reducible refine Below.setCell ?_ ?_ _ | with_reducible refine Below.drew ?_ | with_reducible refine below_drewN ?_ _ | with_reducible refine Below.trans ?_ (Below.mono (by with_reducible assumption) ?_) | omega | (simp <;> omega)))) (some ⟨wr.heap.size, 0, none⟩) 1 1 [.int .i64 (2 + 1)] rfl _ (rd_one (by go_simp)) (by simp [Value.oneCell']) (by unfold maxLen; omega) (by omega) (by simp; omega) wx.heap.size wx (by repeat' (first | with_reducible exact Below.refl _ _ | with_reducible assumption | with_reducible refine Below.alloc ?_ ?_ _ | with_reducible refine Below.setCell ?_ ?_ _ | with_reducible refine Below.drew ?_ | with_reducible refine below_drewN ?_ _ | with_reducible refine Below.trans ?_ (Below.mono (by with_reducible assumption) ?_) | omega | (simp <;> omega))) (Nat.le_refl _) ?_; intro v' w6 hown6 hb6 hsz6))
                      exact ⟨⟨2 + 1, by go_num, by omega, by rw [Hst.out, List.length_append, List.map_append]; exact hown6, (by repeat' (first | with_reducible exact Below.refl _ _ | with_reducible assumption | with_reducible refine Below.alloc ?_ ?_ _ | with_reducible refine Below.setCell ?_ ?_ _ | with_reducible refine Below.drew ?_ | with_reducible refine below_drewN ?_ _ | with_reducible refine Below.trans ?_ (Below.mono (by with_reducible assumption) ?_) | omega | (simp <;> omega)))⟩, by simp [intOf]⟩
                  · cases c3 with
                    | true =>
                      have Hst : Hid (outTo cs (3 + 1) = outTo cs 3) := hide (by rw [outTo_succ, Hcs.out]; simp)
                      have hlook : (Instr.lookup 56 (.map (some w2.heap.size)) (.int .i64 4) false).run Tryd.prog wr = .ok (.bool false) wr := HTr.out.look (by decide)
                      go_wp2_with fail
                      exact ⟨⟨3 + 1, by go_num, by omega, by rw [Hst.out]; exact hown, (by repeat' (first | with_reducible exact Below.refl _ _ | with_reducible assumption | with_reducible refine Below.alloc ?_ ?_ _ | with_reducible refine Below.setCell ?_ ?_ _ | with_reducible refine Below.drew ?_ | with_reducible refine below_drewN ?_ _ | with_reducible refine Below.trans ?_ (Below.mono (by with_reducible assumption) ?_) | omega | (simp <;> omega)))⟩, by simp [intOf]⟩
                    | false =>
                      have Hst : Hid (outTo cs (3 + 1) = outTo cs 3 ++ [4]) := hide (by rw [outTo_succ, Hcs.out]; simp)
                      have hlook : (Instr.lookup 56 (.map (some w2.heap.size)) (.int .i64 4) false).run Tryd.prog wr = .ok (.bool true) wr := HTr.out.look (by decide)
                      go_wp2_with (first | (at_builtin; refine wpList_append_rd rfl _ _ 48 rfl wx.heap.size 3 i0 _ 1 8 Tryd.underlying48 hi iz0 iz1 iz2 rfl (by decide) (.slice A0 (outTo cs 3).length cap0) (outTo cs 3).length ((outTo cs 3).map (Value.int .i64)) rfl (own_below hown (by repeat' (first | with_reducible exact Below.refl _ _ | with_reducible assumption | with_reducible refine Below.alloc ?_ ?_ _ | with_reducible refine Below.setCell ?_ ?_ _ | with_reducible refine Below.drew ?_ | with_reducible refine below_drewN ?_ _ | with_reducible refine Below.trans ?_ (Below.mono (by with_reducible assumption) ?_) | omega | (simp <;> omega)))) (some ⟨wr.heap.size, 0, none⟩) 1 1 [.int .i64 (3 + 1)] rfl _ (rd_one (by go_simp)) (by simp [Value.oneCell']) (by unfold maxLen; omega) (by omega) (by simp; omega) wx.heap.size wx (by repeat' (first | with_reducible exact Below.refl _ _ | with_reducible assumption | with_reducible refine Below.alloc ?_ ?_ _ | with_reducible refine Below.setCell ?_ ?_ _ | with_reducible refine Below.drew ?_ | with_reducible refine below_drewN ?_ _ | with_reducible refine Below.trans ?_ (Below.mono (by with_reducible assumption) ?_) | omega | (simp <;> omega))) (Nat.le_refl _) ?_; intro v' w6 hown6 hb6 hsz6))
                      exact ⟨⟨3 + 1, by go_num, by omega, by rw [Hst.out, List.length_append, List.map_append]; exact hown6, (by repeat' (first | with_reducible exact Below.refl _ _ | with_reducible assumption | with_reducible refine Below.alloc ?_ ?_ _ | with_reducible refine Below.setCell ?_ ?_ _ | with_reducible refine Below.drew ?_ | with_reducible refine below_drewN ?_ _ | with_reducible refine Below.trans ?_ (Below.mono (by with_reducible assumption) ?_) | omega | (simp <;> omega)))⟩, by simp [intOf]⟩
                  · cases c4 with
                    | true =>
                      have Hst : Hid (outTo cs (4 + 1) = outTo cs 4) := hide (by rw [outTo_succ, Hcs.out]; simp)
                      have hlook : (Instr.lookup 56 (.map (some w2.heap.size)) (.int .i64 5) false).run Tryd.prog wr = .ok (.bool false) wr := HTr.out.look (by decide)
                      go_wp2_with fail
                      exact ⟨⟨4 + 1, by go_num, by omega, by rw [Hst.out]; exact hown, (by repeat' (first | with_reducible exact Below.refl _ _ | with_reducible assumption | with_reducible refine Below.alloc ?_ ?_ _ | with_reducible refine Below.setCell ?_ ?_ _ | with_reducible refine Below.drew ?_ | with_reducible refine below_drewN ?_ _ | with_reducible refine Below.trans ?_ (Below.mono (by with_reducible assumption) ?_) | omega | (simp <;> omega)))⟩, by simp [intOf]⟩
                    | false =>
                      have Hst : Hid (outTo cs (4 + 1) = outTo cs 4 ++ [5]) := hide (by rw [outTo_succ, Hcs.out]; simp)
                      have hlook : (Instr.lookup 56 (.map (some w2.heap.size)) (.int .i64 5) false).run Tryd.prog wr = .ok (.bool true) wr := HTr.out.look (by decide)
                      go_wp2_with (first | (at_builtin; refine wpList_append_rd rfl _ _ 48 rfl wx.heap.size 3 i0 _ 1 8 Tryd.underlying48 hi iz0 iz1 iz2 rfl (by decide) (.slice A0 (outTo cs 4).length cap0) (outTo cs 4).length ((outTo cs 4).map (Value.int .i64)) rfl (own_below hown (by repeat' (first | with_reducible exact Below.refl _ _ | with_reducible assumption | with_reducible refine Below.alloc ?_ ?_ _ | with_reducible refine Below.setCell ?_ ?_ _ | with_reducible refine Below.drew ?_ | with_reducible refine below_drewN ?_ _ | with_reducible refine Below.trans ?_ (Below.mono (by with_reducible assumption) ?_) | omega | (simp <;> omega)))) (some ⟨wr.heap.size, 0, none⟩) 1 1 [.int .i64 (4 + 1)] rfl _ (rd_one (by go_simp)) (by simp [Value.oneCell']) (by unfold maxLen; omega) (by omega) (by simp; omega) wx.heap.size wx (by repeat' (first | with_reducible exact Below.refl _ _ | with_reducible assumption | with_reducible refine Below.alloc ?_ ?_ _ | with_reducible refine Below.setCell ?_ ?_ _ | with_reducible refine Below.drew ?_ | with_reducible refine below_drewN ?_ _ | with_reducible refine Below.trans ?_ (Below.mono (by with_reducible assumption) ?_) | omega | (simp <;> omega))) (Nat.le_refl _) ?_; intro v' w6 hown6 hb6 hsz6))
                      exact ⟨⟨4 + 1, by go_num, by omega, by rw [Hst.out, List.length_append, List.map_append]; exact hown6, (by repeat' (first | with_reducible exact Below.refl _ _ | with_reducible assumption | with_reducible refine Below.alloc ?_ ?_ _ | with_reducible refine Below.setCell ?_ ?_ _ | with_reducible refine Below.drew ?_ | with_reducible refine below_drewN ?_ _ | with_reducible refine Below.trans ?_ (Below.mono (by with_reducible assumption) ?_) | omega | (simp <;> omega)))⟩, by simp [intOf]⟩
                · obtain rfl : k = 5 := by omega
                  have hle6 : ¬ (((5 : Nat) : Int) + 1 ≤ 5) := by decide
                  obtain ⟨A, cap', e1', hr⟩ := own_rd' hown
                  injection e1' with e1' e2' e3'
                  subst e1' e3'
                  obtain ⟨l5, hl5⟩ : ∃ l, l = outTo cs 5 := ⟨_, rfl⟩
                  rw [← hl5] at hr hlen
                  have hck := Hckc.out
                  rw [← hl5] at hck
                  have Hck5 := hide hck
                  have Hr := hide hr
                  have HSr := hide (HSx.out.below hB)
                  have HMr := hide (HMx.out.grow hB)
                  have f0 := (hB.cell (p := ⟨w1.heap.size, 0, none⟩) hzx).trans g0
                  have f1 := (hB.cell (p := ⟨w1.heap.size, 1, none⟩) hzx).trans g1
                  have f2 := (hB.cell (p := ⟨w1.heap.size, 2, none⟩) hzx).trans g2
                  rw [← hl5]
                  clear hck hr hown hcp0 hbl0 hl5
                  go_wp2_with (first
                    | (go_at_call 15; refine (Hck5.out _ (HSr.out.below (by repeat' (first | with_reducible exact Below.refl _ _ | with_reducible assumption | with_reducible refine Below.alloc ?_ ?_ _ | with_reducible refine Below.setCell ?_ ?_ _ | with_reducible refine Below.drew ?_ | with_reducible refine below_drewN ?_ _ | with_reducible refine Below.trans ?_ (Below.mono (by with_reducible assumption) ?_) | omega | (simp <;> omega)))) (HMr.out.grow (by repeat' (first | with_reducible exact Below.refl _ _ | with_reducible assumption | with_reducible refine Below.alloc ?_ ?_ _ | with_reducible refine Below.setCell ?_ ?_ _ | with_reducible refine Below.drew ?_ | with_reducible refine below_drewN ?_ _ | with_reducible refine Below.trans ?_ (Below.mono (by with_reducible assumption) ?_) | omega | (simp <;> omega))))).mono ?_; rintro e w6 ⟨Q, capQ, rfl, hQ, -, hb6⟩))
                  have hs6 := hb6.size
                  have hB6 : Below w.heap.size w w6 := hBxw.trans (hB.trans (hb6.mono (by omega)) |>.mono (by omega))
                  have HQ := hide hQ
                  have HW := hide ((Hr.out.below hb6).more hs6)
                  clear hQ hb6 Hr HSr HMr f0 f1 f2
                  go_loopw [123] (fun i wr => ∃ j : Nat, i = .int .i64 j ∧ j ≤ l5.length ∧ Below w6.heap.size w6 wr) (fun i _ => l5.length - (intOf i).toNat)
                  case atStart => exact ⟨0, rfl, by omega, (by repeat' (first | with_reducible exact Below.refl _ _ | with_reducible assumption | with_reducible refine Below.alloc ?_ ?_ _ | with_reducible refine Below.setCell ?_ ?_ _ | with_reducible refine Below.drew ?_ | with_reducible refine below_drewN ?_ _ | with_reducible refine Below.trans ?_ (Below.mono (by with_reducible assumption) ?_) | omega | (simp <;> omega)))⟩
                  case round =>
                    obtain ⟨j, rfl, hj, hBy⟩ := hrel
                    have hsy := hBy.size
                    by_cases hjl : j < l5.length
                    · obtain ⟨z, hz⟩ : ∃ z, l5[j]? = some z := ⟨_, List.getElem?_eq_getElem hjl⟩
                      obtain ⟨b1, o1, rfl, hb1', q1⟩ := rd_int (HQ.out.below hBy) hjl hz
                      obtain ⟨b2, o2, rfl, hb2', q2⟩ := rd_int (HW.out.below hBy) hjl hz
                      have hj0 : (0 : Int) ≤ (j : Int) := by omega
                      have hj1 : (j : Int) < (l5.length : Int) := by omega
                      clear hz
                      go_wp2_with fail
                      go_region_held3 (fun w' => w'.cell? ⟨b1, o1 + j, none⟩ = some (.int .i64 z) ∧ w'.cell? ⟨b2, o2 + j, none⟩ = some (.int .i64 z))
                        (first | exact ⟨q1, q2⟩ | go_keep) (fail)
                      all_goals go_wp2_with fail
                      all_goals exact ⟨⟨j + 1, by go_num, by omega, (by repeat' (first | with_reducible exact Below.refl _ _ | with_reducible assumption | with_reducible refine Below.alloc ?_ ?_ _ | with_reducible refine Below.setCell ?_ ?_ _ | with_reducible refine Below.drew ?_ | with_reducible refine below_drewN ?_ _ | with_reducible refine Below.trans ?_ (Below.mono (by with_reducible assumption) ?_) | omega | (simp <;> omega)))⟩, by simp [intOf]; omega⟩
                    · obtain ⟨rfl⟩ : j = l5.length := by omega
                      have hj34 : ¬ ((l5.length : Int) < (l5.length : Int)) := by omega
                      have hBw : Below w.heap.size w wr := hB6.trans (hBy.mono (by omega))
                      go_wp2_with (first | (go_at_call 8; refine (awake_ok _ (hs.below (by repeat' (first | with_reducible exact Below.refl _ _ | with_reducible assumption | with_reducible refine Below.alloc ?_ ?_ _ | with_reducible refine Below.setCell ?_ ?_ _ | with_reducible refine Below.drew ?_ | with_reducible refine below_drewN ?_ _ | with_reducible refine Below.trans ?_ (Below.mono (by with_reducible assumption) ?_) | omega | (simp <;> omega))))).mono ?_; rintro e w9 ⟨rfl, hb9⟩; obtain ⟨hcc9, hff9⟩ := bcell hb9; have hs9 := hb9.size; (try simp at hs9)))
                      go_ret
                      exact ⟨rfl, (by repeat' (first | with_reducible exact Below.refl _ _ | with_reducible assumption | with_reducible refine Below.alloc ?_ ?_ _ | with_reducible refine Below.setCell ?_ ?_ _ | with_reducible refine Below.drew ?_ | with_reducible refine below_drewN ?_ _ | with_reducible refine Below.trans ?_ (Below.mono (by with_reducible assumption) ?_) | omega | (simp <;> omega)))⟩
theorem sizesMet {W : World} (h : laidMetH Tryd.prog Rows.reviveChecksRow.laid W) : Sizes W := by
  have ht : Lib.TabIs Tryd.prog W "simulcast/layout.sizes" .i64 [8, 8, 8, 1, 104, 0, 32] := Lib.tabIs_of_head (g := 0) (rest := []) (by kernel_rfl) (by kernel_rfl) Tryd.underlying106 Tryd.underlying3 (by kernel_rfl) (by kernel_rfl) h
  intro k u hu
  have hk := (List.getElem?_eq_some_iff.1 hu).1
  have e : [8, 8, 8, 1, 104, 0, 32][k]'hk = u := (List.getElem?_eq_some_iff.1 hu).2
  rw [← e]
  exact (ht.cell (show Tryd.prog.globalNamed "simulcast/layout.sizes" = some 0 by kernel_rfl) k hk).trans (by rw [List.getD_eq_getElem?_getD, List.getElem?_eq_getElem hk]; rfl)
set_option maxRecDepth 100000 in
theorem walk : LawWalkL Tryd.prog 5 #[28] Rows.reviveChecksRow.laid := by
  intro H enc W base args ds p hval hA hlt hL
  obtain ⟨v0, d0, rfl, rfl, h0⟩ := trodAll_one hA
  obtain ⟨m, rfl, hm, hok⟩ := rd_mem (hval 0 28 v0 rfl rfl) h0
  exact law_ok m W (sizesMet hL) hm hok
noncomputable def laidWorld (os : Os) : World :=
  { World.holding Tryd.prog os ⟨#[], #[], []⟩ with heap := (World.holding Tryd.prog os ⟨#[], #[], []⟩).heap.modify 0 fun
      | .cells _ t frozen => .cells #[.int .i64 8, .int .i64 8, .int .i64 8, .int .i64 1, .int .i64 104, .int .i64 0, .int .i64 32] t frozen
      | o => o }
theorem laid_met (os : Os) : laidMet Tryd.prog Rows.reviveChecksRow.laid ((laidWorld os).forCall (fun _ _ => 0) ⟨#[], #[.agg #[.slice none 0 0, .slice none 0 0, .slice none 0 0, .slice none 0 0, .slice none 0 0]], []⟩).memory :=
  laidMet_of_run' 8 (by kernel_rfl) (by kernel_rfl)
theorem reads (os : Os) {H : Type} (enc : TypeId × Value → H) : ∃ places, DataW.whole enc Tryd.prog ((laidWorld os).forCall (fun _ _ => 0) ⟨#[], #[.agg #[.slice none 0 0, .slice none 0 0, .slice none 0 0, .slice none 0 0, .slice none 0 0]], []⟩).memory Tryd.f5.params.toList Rows.reviveChecksSpec.vars false (#[.agg #[.slice none 0 0, .slice none 0 0, .slice none 0 0, .slice none 0 0, .slice none 0 0]] : Array Value).toList 8 = some ([.agg [.nil, .nil, .nil, .nil, .nil]], [], places) :=
  ⟨[], by kernel_rfl⟩
set_option maxRecDepth 100000 in
theorem lifted (os : Os) (started : os.Started) (H : Type) (enc : TypeId × Value → H) (F : Stop.Interp) :
    ReturnsInHanded {} Tryd.checked os 5 .any ((OpenSpec.ofChange Rows.reviveChecksSpec).preRow enc Tryd.prog Tryd.f5 Rows.reviveChecksRow.domain false Rows.reviveChecksRow.laid) (((OpenSpec.ofChange Rows.reviveChecksSpec).at F).post enc Tryd.prog Tryd.f5 false true false false) := by
  obtain ⟨places, hx⟩ := reads os enc
  refine returnsInHanded_of_row (C := Tryd.checked) (s := OpenSpec.ofChange Rows.reviveChecksSpec) own started (by kernel_rfl) Tryd.func5
    (witness_row_at (enc := enc) (C := Tryd.checked) false (laidWorld os) #[.agg #[.slice none 0 0, .slice none 0 0, .slice none 0 0, .slice none 0 0, .slice none 0 0]] rfl (by kernel_rfl) (by kernel_rfl) (by kernel_rfl)
      (OpenSpec.preRow_of_cond 8 hx (by kernel_rfl) (fun k hk => by cases hk) (by kernel_rfl) (laid_met os))) ?_
  intro W base args ds gs before hval hW _ _ _ hL _ _
  exact law_contract (s := Rows.reviveChecksSpec) (by kernel_rfl) (by kernel_rfl) Tryd.underlying4 (by kernel_rfl) ⟨rfl, fun H ds h => by match ds, h with | [d1], _ => exact ⟨rfl, rfl, rfl⟩⟩ (by rw [Tryd.params5]; exact walk) W base args ds gs before hval hW hL
theorem over : Rows.reviveChecksRow.holds Tryd.pinned (OpenSpec.ofChange Rows.reviveChecksSpec) :=
  OpenClaim.holds_of_cond 5 Tryd.f5 rfl rfl rfl rfl rfl rfl rfl ⟨rfl, rfl, rfl, rfl, rfl⟩ rfl rfl rfl rfl rfl (by kernel_rfl) Tryd.func5 (by kernel_rfl)
    (of_decide_eq_true (by kernel_rfl)) (by unfold Func.isWrapper; first | (rw [if_pos (by decide +kernel)]; kernel_rfl) | (rw [if_neg (by decide +kernel)]; exact ⟨rfl, rfl⟩))
    (fun os started H enc _ F => by rw [OpenClaim.pre_eq_preRow]; exact lifted os started H enc F)
theorem plainLaw (f : FuncId) (fn : Func) (hf : Tryd.pinned.checked.prog.funcNamed "simulcast/simulcastlaw56.ReviveChecks" = some f) (hfn : Tryd.pinned.checked.prog.funcs[f]? = some fn) :
    false = Tryd.pinned.checked.prog.looks [] ∧ ∀ (j : Nat) t, fn.params[j]? = some t → Tryd.pinned.checked.prog.wantsStandIn t = false := by
  obtain rfl : f = 5 := Option.some.inj ((show Tryd.prog.funcNamed "simulcast/simulcastlaw56.ReviveChecks" = some 5 by kernel_rfl).symm.trans hf) |>.symm
  obtain rfl : fn = Tryd.f5 := (Option.some.inj (Tryd.func5.symm.trans hfn)).symm
  refine ⟨by kernel_rfl, fun j t ht => ?_⟩
  rw [Tryd.params5] at ht
  have hm := Array.mem_of_getElem? ht
  have hall : ∀ t ∈ (#[28] : Array TypeId), Tryd.prog.wantsStandIn t = false := by
    intro t h
    simp only [List.mem_toArray, List.mem_cons, List.not_mem_nil, or_false] at h
    rcases h with rfl
    all_goals kernel_rfl
  exact hall t hm
theorem card : Rows.ReviveChecksCardSaid :=
  Claim7.holds_tied_plain_at .later [] _ _ _ _ over (fun _ h => by cases h) (by kernel_rfl) (fun _ h => by cases h) reviveChecks_row_tie rfl ⟨rfl, rfl⟩ (by kernel_rfl) rfl plainLaw (by kernel_rfl)
theorem proved : Rows.ReviveChecksCardSaid := card
end Go.Proofs.YtfldjbojonbmpaaDoor.lawChecks
