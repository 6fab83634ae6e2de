/- Package redo: Words, walked. -/
import Derived.Test.YtbomhhkknopdpaaGreatDoorR4
import Derived.Deep.DeepCutAuto
namespace Go.Proofs.YtbomhhkknopdpaaGreatDoor
set_option linter.unusedSimpArgs false
set_option linter.unusedVariables false
open Go.RowKit
theorem rd_int {w : World} {B n : Nat} {A : Option Addr} {l : List Int} (h : Rd w B 1 A n (l.map (Value.int .i64))) {k : Nat} {a : Int} (hk : k < n) (ha : l[k]? = some a) : ∃ b off, A = some ⟨b, off, none⟩ ∧ b < B ∧ w.cell? ⟨b, off + k, none⟩ = some (.int .i64 a) := by
  obtain ⟨b, off, e, hB, hc⟩ := h.2 (by omega)
  exact ⟨b, off, e, hB, hc k _ (by rw [List.getElem?_map, ha]; rfl)⟩
def WordsPost (ws : List W3) (n : Nat) (w : World) (e : Ending) (w' : World) : Prop := ∃ g cap' : Nat, e = .returned (.tuple #[.slice (some ⟨g, 0, none⟩) n cap', .int .i64 0]) ∧ Mem g ws w' ∧ w.heap.size ≤ g ∧ n ≤ cap' ∧ cap' ≤ maxLen ∧ Below w.heap.size w w'
set_option maxHeartbeats 16000000 in
set_option maxRecDepth 100000 in
theorem words_ok (T C B : Int) (b n cap : Nat) (ws : List W3) (w : World) (hv : Valid T C B) (hs : Sizes w) (hM : Mem b ws w) (hl : ws.length = n) (hnm : n ≤ 1000000) (hcap : n ≤ cap) (hok : ∀ x ∈ ws, x.ok) (hn : fromL T C B 7 = (n : Int)) :
    Calls Tryz.prog 8 #[(.agg #[.int .i64 T, .int .i64 C, .int .i64 B]), .slice (some ⟨b, 0, none⟩) n cap] w (WordsPost (redoL T C B ws) n w) := by
  have hpos := hs.pos
  have hb := hM.2.2
  have hn0 : 0 < n := by
    have h1 := fromL_end T C B
    have h2 := (from_le T C B hv.1 4).1
    obtain ⟨f1, -⟩ := hv.1
    have hx : (if 0 < B then (8 : Int) else 0) ≥ 0 := by split <;> omega
    have h5 := hv.1.2.2.2.2.1
    omega
  have HN := hide hn
  have HM := hide hM
  have Hl := hide hl
  have Hok := hide hok
  have hnn : ¬ ((n : Int) < (n : Int)) := by omega
  have hlm : (mayLs T C B).length ≤ 4096 := by
    have h1 := mayTo_len T C B (fromL T C B 7).toNat
    have h2 := hv.2
    unfold mayLs
    omega
  have hls : (statusesL T C B).length ≤ 4096 := by
    unfold statusesL
    rw [List.length_append, slotsTo_len, blocksTo_len]
    obtain ⟨f1, f2, f3, f4, f5, f6⟩ := hv.1
    omega
  have hlo : (ownLs T C B).length ≤ 4096 := by
    unfold ownLs
    rw [ownTo_len]
    obtain ⟨f1, f2, f3, f4, f5, f6⟩ := hv.1
    omega
  have hncap : (n : Int) ≤ (cap : Int) := by omega
  have hn00 : (0 : Int) ≤ (n : Int) := by omega
  obtain ⟨R, hR⟩ : ∃ R, R = redoL T C B ws := ⟨_, rfl⟩
  rw [← hR]
  have HR := hide hR
  obtain ⟨Q, hQ⟩ : ∃ Q : Ending → World → Prop, Q = WordsPost R n w := ⟨_, rfl⟩
  rw [← hQ]
  have HQ := hide hQ
  clear hM hl hok hn hR hQ
  go_enter Tryz.func8, Tryz.ntmps8
  go_wp2_with (first
    | (go_at_call 12; refine (check_ok T C B _ hv (hs.below (by repeat' (first | with_reducible exact Below.refl _ _ | with_reducible assumption | with_reducible refine Below.alloc ?_ ?_ _ | with_reducible refine Below.setCell ?_ ?_ _ | with_reducible refine Below.drew ?_ | with_reducible refine below_drewN ?_ _ | with_reducible refine Below.trans ?_ (Below.mono (by with_reducible assumption) ?_) | omega | (simp <;> omega))))).mono ?_; rintro e w1 ⟨rfl, hb1⟩; obtain ⟨hcc1, hff1⟩ := bcell hb1; have hs1 := hb1.size; (try simp at hs1); have hz1 : w.heap.size < w1.heap.size := (by omega); have hq1 : 0 < w1.heap.size := (by omega); have hv1 : b < w1.heap.size := (by omega))
    | (go_at_call 21; refine (size_ok T C B _ hv (hs.below (by repeat' (first | with_reducible exact Below.refl _ _ | with_reducible assumption | with_reducible refine Below.alloc ?_ ?_ _ | with_reducible refine Below.setCell ?_ ?_ _ | with_reducible refine Below.drew ?_ | with_reducible refine below_drewN ?_ _ | with_reducible refine Below.trans ?_ (Below.mono (by with_reducible assumption) ?_) | omega | (simp <;> omega))))).mono ?_; rintro e w2 ⟨rfl, hb2⟩; rw [HN.out]; obtain ⟨hcc2, hff2⟩ := bcell hb2; have hs2 := hb2.size; (try simp at hs2); have hz2 : w.heap.size < w2.heap.size := (by omega); have hq2 : 0 < w2.heap.size := (by omega); have hv2 : b < w2.heap.size := (by omega))
    | (go_at_call 22; refine (clonew_any b n cap ws _ (HM.out.grow (by repeat' (first | with_reducible exact Below.refl _ _ | with_reducible assumption | with_reducible refine Below.alloc ?_ ?_ _ | with_reducible refine Below.setCell ?_ ?_ _ | with_reducible refine Below.drew ?_ | with_reducible refine below_drewN ?_ _ | with_reducible refine Below.trans ?_ (Below.mono (by with_reducible assumption) ?_) | omega | (simp <;> omega)))) Hl.out hn0 hnm).mono ?_; rintro e w3 ⟨g, cp, rfl, hMg, hg, hcp, hcm, hb3⟩; obtain ⟨hcc3, hff3⟩ := bcell hb3; have hs3 := hb3.size; (try simp at hs3); have hz3 : w.heap.size < w3.heap.size := (by omega); have hq3 : 0 < w3.heap.size := (by omega); have hv3 : b < w3.heap.size := (by omega))
    | (go_at_call 23; refine (may_list T C B _ hv (hs.below (by repeat' (first | with_reducible exact Below.refl _ _ | with_reducible assumption | with_reducible refine Below.alloc ?_ ?_ _ | with_reducible refine Below.setCell ?_ ?_ _ | with_reducible refine Below.drew ?_ | with_reducible refine below_drewN ?_ _ | with_reducible refine Below.trans ?_ (Below.mono (by with_reducible assumption) ?_) | omega | (simp <;> omega))))).mono ?_; rintro e w4 ⟨A, capA, rfl, hA, hAg, hb4⟩; obtain ⟨hcc4, hff4⟩ := bcell hb4; have hs4 := hb4.size; (try simp at hs4); have hz4 : w.heap.size < w4.heap.size := (by omega); have hq4 : 0 < w4.heap.size := (by omega); have hv4 : b < w4.heap.size := (by omega)))
  have e0 : w4.cell? ⟨w.heap.size, 0, none⟩ = some (.int .i64 T) := by go_simp
  have e1 : w4.cell? ⟨w.heap.size, 1, none⟩ = some (.int .i64 C) := by go_simp
  have e2 : w4.cell? ⟨w.heap.size, 2, none⟩ = some (.int .i64 B) := by go_simp
  have hB4 : Below w.heap.size w w4 := (by repeat' (first | with_reducible exact Below.refl _ _ | with_reducible assumption | with_reducible refine Below.alloc ?_ ?_ _ | with_reducible refine Below.setCell ?_ ?_ _ | with_reducible refine Below.drew ?_ | with_reducible refine below_drewN ?_ _ | with_reducible refine Below.trans ?_ (Below.mono (by with_reducible assumption) ?_) | omega | (simp <;> omega)))
  have HS4 := hide (hs.below hB4)
  have HM4 := hide (HM.out.grow hB4)
  have HG4 := hide (hMg.grow hb4)
  have hgl : g < w3.heap.size := hMg.2.2
  have HA := hide hA
  have HAg := hide hAg
  have hgb : ¬ g = b := by omega
  have hgw : ¬ g = w.heap.size := by omega
  have hcpi : (n : Int) ≤ (cp : Int) := by omega
  clear hcc1 hcc2 hcc3 hcc4 hff1 hff2 hff3 hff4 hb1 hb2 hb3 hb4 hA hAg hMg
  go_loopw [28] (fun i wr => ∃ k : Nat, i = .int .i64 k ∧ k ≤ (mayLs T C B).length ∧ Mem g (((mayLs T C B).take k).foldl (pass1 T C B ws) ws) wr ∧ But g w4.heap.size w4 wr) (fun i _ => (mayLs T C B).length - (intOf i).toNat)
  case atStart => exact ⟨0, rfl, by omega, by simpa using HG4.out, (by repeat' (first | with_reducible exact But.refl _ _ _ | with_reducible assumption | with_reducible refine But.alloc ?_ ?_ _ | with_reducible refine But.setCell ?_ ?_ _ | with_reducible refine But.drew ?_ | with_reducible refine But.drewN ?_ _ | with_reducible refine But.of ?_ (Below.mono (by with_reducible assumption) ?_) | (left; rfl) | omega | (right; simp <;> omega) | (simp <;> omega)))⟩
  case round =>
    obtain ⟨k, rfl, hk, hG, hB⟩ := hrel
    have hsz := hB.size
    have f0 := (hB.cell (p := ⟨w.heap.size, 0, none⟩) hz4 (by show w.heap.size ≠ g; omega)).trans e0
    have f1 := (hB.cell (p := ⟨w.heap.size, 1, none⟩) hz4 (by show w.heap.size ≠ g; omega)).trans e1
    have f2 := (hB.cell (p := ⟨w.heap.size, 2, none⟩) hz4 (by show w.heap.size ≠ g; omega)).trans e2
    have HSr := hide (HS4.out.below' (B := min g w4.heap.size) (by omega) (hB.below (by omega) (by omega)))
    have HMr := hide (HM4.out.but hB (by omega) (by omega))
    have HAr := hide (HA.out.but hB (fun b off e => by have := HAg.out b off e; omega))
    have HG := hide hG
    clear hG
    by_cases hlt : k < (mayLs T C B).length
    · obtain ⟨a, ha⟩ : ∃ a, (mayLs T C B)[k]? = some a := ⟨_, List.getElem?_eq_getElem hlt⟩
      have hmay := mayLs_in (List.mem_of_getElem? ha)
      have hin := may_in hv hmay
      rw [HN.out] at hin
      obtain ⟨p, rfl⟩ : ∃ p : Nat, a = (p : Int) := ⟨a.toNat, by omega⟩
      obtain ⟨hp0, -, hp1⟩ := hin
      have hp1' : p < n := by omega
      obtain ⟨bA, off, rfl, hbA, hcA⟩ := rd_int HAr.out hlt ha
      have hst := foldl_take_succ (pass1 T C B ws) ws (mayLs T C B) ha
      unfold pass1 at hst
      rw [Int.toNat_natCast] at hst
      obtain ⟨y, hy⟩ : ∃ y, y = logicalL T C B ws p := ⟨_, rfl⟩
      rw [← hy] at hst
      obtain ⟨x, hx⟩ : ∃ x, ws[p]? = some x := ⟨_, List.getElem?_eq_getElem (by rw [Hl.out]; omega)⟩
      have hlg := fun (W : World) (hs' : Sizes W) (hM' : Mem b ws W) => logical_may T C B b n cap p x _ _ ws W hv hs' hM' Hl.out hnm hcap Hok.out (by rw [HN.out]; omega) hmay hx rfl
      rw [← hy] at hlg
      have Hlg := hide hlg
      obtain ⟨o, ho⟩ : ∃ o, o = ((mayLs T C B).take k).foldl (pass1 T C B ws) ws := ⟨_, rfl⟩
      have HG2 : Hid (Mem g o wr) := by rw [ho]; exact HG
      have hol : o.length = n := by rw [ho, fold1_len, Hl.out]
      have Hst : Hid (((mayLs T C B).take (k + 1)).foldl (pass1 T C B ws) ws = o.set p y) := by rw [ho]; exact hst
      obtain ⟨z, hz⟩ : ∃ z, o[p]? = some z := ⟨_, List.getElem?_eq_getElem (by omega)⟩
      have Hz := hide hz
      have Hol := hide hol
      have hki : (0 : Int) ≤ (k : Int) := by omega
      have hkj : (k : Int) < ((mayLs T C B).length : Int) := by omega
      have hzr : w.heap.size < wr.heap.size := by omega
      clear hst hy hlg ho hz hx ha hmay HG hol
      go_wp2_with fail
      go_region_held3 (fun w' => w'.cell? ⟨w.heap.size, 0, none⟩ = some (.int .i64 T) ∧ w'.cell? ⟨w.heap.size, 1, none⟩ = some (.int .i64 C) ∧ w'.cell? ⟨w.heap.size, 2, none⟩ = some (.int .i64 B))
        (first | exact ⟨f0, f1, f2⟩ | go_keep)
        (first
          | (go_at_call 21; refine (size_ok T C B _ hv (HSr.out.below (by repeat' (first | with_reducible exact Below.refl _ _ | with_reducible assumption | with_reducible refine Below.alloc ?_ ?_ _ | with_reducible refine Below.setCell ?_ ?_ _ | with_reducible refine Below.drew ?_ | with_reducible refine below_drewN ?_ _ | with_reducible refine Below.trans ?_ (Below.mono (by with_reducible assumption) ?_) | omega | (simp <;> omega))))).mono ?_; rintro e' w5 ⟨rfl, hb5'⟩; rw [HN.out]; have hb5 : Below _ _ w5 := (by first | with_reducible exact noDrew hb5' | exact hb5'); clear hb5'; obtain ⟨hcc5, hff5⟩ := bcell hb5; have hs5 := hb5.size; (try simp at hs5); have hz5 : w.heap.size < w5.heap.size := (by omega))
          | (go_at_call 24; refine (Hlg.out _ (HSr.out.below (by repeat' (first | with_reducible exact Below.refl _ _ | with_reducible assumption | with_reducible refine Below.alloc ?_ ?_ _ | with_reducible refine Below.setCell ?_ ?_ _ | with_reducible refine Below.drew ?_ | with_reducible refine below_drewN ?_ _ | with_reducible refine Below.trans ?_ (Below.mono (by with_reducible assumption) ?_) | omega | (simp <;> omega)))) (HMr.out.grow (by repeat' (first | with_reducible exact Below.refl _ _ | with_reducible assumption | with_reducible refine Below.alloc ?_ ?_ _ | with_reducible refine Below.setCell ?_ ?_ _ | with_reducible refine Below.drew ?_ | with_reducible refine below_drewN ?_ _ | with_reducible refine Below.trans ?_ (Below.mono (by with_reducible assumption) ?_) | omega | (simp <;> omega))))).mono ?_; rintro e' w6 ⟨rfl, hb6'⟩; have hb6 : Below _ _ w6 := (by first | with_reducible exact noDrew hb6' | exact hb6'); clear hb6'; obtain ⟨hcc6, hff6⟩ := bcell hb6; have hs6 := hb6.size; (try simp at hs6); have hz6 : w.heap.size < w6.heap.size := (by omega); have hG6 : Mem g o w6 := HG2.out.grow (by repeat' (first | with_reducible exact Below.refl _ _ | with_reducible assumption | with_reducible refine Below.alloc ?_ ?_ _ | with_reducible refine Below.setCell ?_ ?_ _ | with_reducible refine Below.drew ?_ | with_reducible refine below_drewN ?_ _ | with_reducible refine Below.trans ?_ (Below.mono (by with_reducible assumption) ?_) | omega | (simp <;> omega))); have s0 := hG6.w0 Hz.out; have s1 := hG6.w1 Hz.out; have s2 := hG6.w2 Hz.out; have sf := hG6.2.1))
      all_goals go_wp2_with fail
      all_goals exact ⟨⟨k + 1, by go_num, by omega, by rw [Hst.out]; exact hG6.set3 (by rw [Hol.out]; omega) y, (by repeat' (first | with_reducible exact But.refl _ _ _ | with_reducible assumption | with_reducible refine But.alloc ?_ ?_ _ | with_reducible refine But.setCell ?_ ?_ _ | with_reducible refine But.drew ?_ | with_reducible refine But.drewN ?_ _ | with_reducible refine But.of ?_ (Below.mono (by with_reducible assumption) ?_) | (left; rfl) | omega | (right; simp <;> omega) | (simp <;> omega)))⟩, by simp [intOf]; omega⟩
    · obtain rfl : k = (mayLs T C B).length := by omega
      have HG1 : Hid (Mem g (redo1 T C B ws) wr) := by have h := HG.out; rw [List.take_length] at h; exact h
      have hzr : w.heap.size < wr.heap.size := by omega
      have hBr : Below w.heap.size w wr := hB4.trans (hB.below (by omega) (by omega))
      clear HG hk hlt HAr
      obtain ⟨wo, rfl⟩ : ∃ wo : World, wo = wr := ⟨_, rfl⟩
      go_wp2_with (first
        | (go_at_call 25; refine (statuses_list T C B _ hv (HSr.out.below (by repeat' (first | with_reducible exact Below.refl _ _ | with_reducible assumption | with_reducible refine Below.alloc ?_ ?_ _ | with_reducible refine Below.setCell ?_ ?_ _ | with_reducible refine Below.drew ?_ | with_reducible refine below_drewN ?_ _ | with_reducible refine Below.trans ?_ (Below.mono (by with_reducible assumption) ?_) | omega | (simp <;> omega))))).mono ?_; rintro e w5 ⟨A2, capA2, rfl, hA2, hAg2, hb5⟩; obtain ⟨hcc5, hff5⟩ := bcell hb5; have hs5 := hb5.size; (try simp at hs5); have hz5 : w.heap.size < w5.heap.size := (by omega); have hv5 : b < w5.heap.size := (by omega)))
      have g0 := (hcc5 _ 0 hzr).trans f0
      have g1 := (hcc5 _ 1 hzr).trans f1
      have g2 := (hcc5 _ 2 hzr).trans f2
      have hB5 : Below w.heap.size w w5 := hBr.trans (hb5.mono (by omega))
      have HS5 := hide (HSr.out.below hb5)
      have HM5 := hide (HMr.out.grow hb5)
      have HG5 := hide (HG1.out.grow hb5)
      have HA2 := hide hA2
      have HAg2 := hide hAg2
      have hg4 : g < wo.heap.size := by omega
      clear hcc5 hff5 hb5 hA2 hAg2 HG1 HSr HMr f0 f1 f2 hB HM4 HS4 HG4 HA HAg e0 e1 e2 hB4
      go_loopw [49] (fun i wq => ∃ k : Nat, i = .int .i64 k ∧ k ≤ (statusesL T C B).length ∧ Mem g (((statusesL T C B).take k).foldl (pass2 ws) (redo1 T C B ws)) wq ∧ But g w5.heap.size w5 wq) (fun i _ => (statusesL T C B).length - (intOf i).toNat)
      case atStart => exact ⟨0, rfl, by omega, by simpa using HG5.out, (by repeat' (first | with_reducible exact But.refl _ _ _ | with_reducible assumption | with_reducible refine But.alloc ?_ ?_ _ | with_reducible refine But.setCell ?_ ?_ _ | with_reducible refine But.drew ?_ | with_reducible refine But.drewN ?_ _ | with_reducible refine But.of ?_ (Below.mono (by with_reducible assumption) ?_) | (left; rfl) | omega | (right; simp <;> omega) | (simp <;> omega)))⟩
      case round =>
        obtain ⟨k, rfl, hk, hG, hB⟩ := hrel
        have hsz2 := hB.size
        have f0 := (hB.cell (p := ⟨w.heap.size, 0, none⟩) hz5 (by show w.heap.size ≠ g; omega)).trans g0
        have f1 := (hB.cell (p := ⟨w.heap.size, 1, none⟩) hz5 (by show w.heap.size ≠ g; omega)).trans g1
        have f2 := (hB.cell (p := ⟨w.heap.size, 2, none⟩) hz5 (by show w.heap.size ≠ g; omega)).trans g2
        have HSr := hide (HS5.out.below' (B := min g w5.heap.size) (by omega) (hB.below (by omega) (by omega)))
        have HMr := hide (HM5.out.but hB (by omega) (by omega))
        have HAr := hide (HA2.out.but hB (fun b off e => by have := HAg2.out b off e; omega))
        have HG := hide hG
        have hzr2 : w.heap.size < wr.heap.size := by omega
        have hvr : b < wr.heap.size := by omega
        clear hG
        by_cases hlt : k < (statusesL T C B).length
        · obtain ⟨a, ha⟩ : ∃ a, (statusesL T C B)[k]? = some a := ⟨_, List.getElem?_eq_getElem hlt⟩
          have hin := statuses_in hv (List.mem_of_getElem? ha)
          rw [HN.out] at hin
          obtain ⟨p, rfl⟩ : ∃ p : Nat, a = (p : Int) := ⟨a.toNat, by omega⟩
          obtain ⟨hp0, hp1⟩ := hin
          have hp1' : p < n := by omega
          obtain ⟨bA, off, rfl, hbA, hcA⟩ := rd_int HAr.out hlt ha
          have hst := foldl_take_succ (pass2 ws) (redo1 T C B ws) (statusesL T C B) ha
          unfold pass2 at hst
          rw [Int.toNat_natCast] at hst
          obtain ⟨x, hx⟩ : ∃ x, ws[p]? = some x := ⟨_, List.getElem?_eq_getElem (by rw [Hl.out]; omega)⟩
          have hx0 : ws.getD p z3 = x := by rw [List.getD_eq_getElem?_getD, hx]; rfl
          rw [hx0] at hst
          have hxok := Hok.out x (List.mem_of_getElem? hx)
          obtain ⟨-, -, hx2, hx3, -, -⟩ := hxok
          obtain ⟨o, ho⟩ : ∃ o, o = ((statusesL T C B).take k).foldl (pass2 ws) (redo1 T C B ws) := ⟨_, rfl⟩
          have HG2 : Hid (Mem g o wr) := by rw [ho]; exact HG
          have hol : o.length = n := by rw [ho, fold2_len, redo1, fold1_len, Hl.out]
          have Hst : Hid (((statusesL T C B).take (k + 1)).foldl (pass2 ws) (redo1 T C B ws) = if undecidedW x = true then o.set p (failedW x) else o) := by rw [ho]; exact hst
          obtain ⟨z, hz⟩ : ∃ z, o[p]? = some z := ⟨_, List.getElem?_eq_getElem (by omega)⟩
          have Hz := hide hz
          have Hol := hide hol
          have hki : (0 : Int) ≤ (k : Int) := by omega
          have hkj : (k : Int) < ((statusesL T C B).length : Int) := by omega
          have x0 := HMr.out.w0 hx
          have x1 := HMr.out.w1 hx
          have x2 := HMr.out.w2 hx
          clear hst ho hz hx hx0 ha HG hol
          cases hq : undecidedW x with
          | true =>
            go_wp2_with (first
              | (go_at_call 26; refine (undecided_any x _).mono ?_; rintro e' w6 ⟨rfl, hb6⟩; rw [hq]; obtain ⟨hcc6, hff6⟩ := bcell hb6; have hs6 := hb6.size; (try simp at hs6); have hz6 : w.heap.size < w6.heap.size := (by omega); have hv6 : b < w6.heap.size := (by omega))
              | (go_at_call 27; refine (failed_any x _ hx2 hx3).mono ?_; rintro e' w7 ⟨rfl, hb7⟩; obtain ⟨hcc7, hff7⟩ := bcell hb7; have hs7 := hb7.size; (try simp at hs7); have hG7 : Mem g o w7 := (HG2.out.grow hb6).grow hb7; have s0 := hG7.w0 Hz.out; have s1 := hG7.w1 Hz.out; have s2 := hG7.w2 Hz.out; have sf := hG7.2.1))
            exact ⟨⟨k + 1, by go_num, by omega, by rw [Hst.out, hq, if_pos rfl]; exact hG7.set3 (by rw [Hol.out]; omega) (failedW x), (by repeat' (first | with_reducible exact But.refl _ _ _ | with_reducible assumption | with_reducible refine But.alloc ?_ ?_ _ | with_reducible refine But.setCell ?_ ?_ _ | with_reducible refine But.drew ?_ | with_reducible refine But.drewN ?_ _ | with_reducible refine But.of ?_ (Below.mono (by with_reducible assumption) ?_) | (left; rfl) | omega | (right; simp <;> omega) | (simp <;> omega)))⟩, by simp [intOf]; omega⟩
          | false =>
            go_wp2_with (first
              | (go_at_call 26; refine (undecided_any x _).mono ?_; rintro e' w6 ⟨rfl, hb6⟩; rw [hq]; obtain ⟨hcc6, hff6⟩ := bcell hb6; have hs6 := hb6.size; (try simp at hs6); have hz6 : w.heap.size < w6.heap.size := (by omega); have hv6 : b < w6.heap.size := (by omega)))
            exact ⟨⟨k + 1, by go_num, by omega, by rw [Hst.out, hq, if_neg (by simp)]; exact HG2.out.grow hb6, (by repeat' (first | with_reducible exact But.refl _ _ _ | with_reducible assumption | with_reducible refine But.alloc ?_ ?_ _ | with_reducible refine But.setCell ?_ ?_ _ | with_reducible refine But.drew ?_ | with_reducible refine But.drewN ?_ _ | with_reducible refine But.of ?_ (Below.mono (by with_reducible assumption) ?_) | (left; rfl) | omega | (right; simp <;> omega) | (simp <;> omega)))⟩, by simp [intOf]; omega⟩
        · obtain rfl : k = (statusesL T C B).length := by omega
          have HG1 : Hid (Mem g (redo2 T C B ws) wr) := by have h := HG.out; rw [List.take_length] at h; exact h
          have hBr2 : Below w.heap.size w wr := hB5.trans (hB.below (by omega) (by omega))
          clear HG hk hlt HAr
          obtain ⟨wo2, rfl⟩ : ∃ wo : World, wo = wr := ⟨_, rfl⟩
          go_wp2_with (first
            | (go_at_call 28; refine (own_list T C B _ hv (HSr.out.below (by repeat' (first | with_reducible exact Below.refl _ _ | with_reducible assumption | with_reducible refine Below.alloc ?_ ?_ _ | with_reducible refine Below.setCell ?_ ?_ _ | with_reducible refine Below.drew ?_ | with_reducible refine below_drewN ?_ _ | with_reducible refine Below.trans ?_ (Below.mono (by with_reducible assumption) ?_) | omega | (simp <;> omega))))).mono ?_; rintro e w8 ⟨A3, capA3, rfl, hA3, hAg3, hb8⟩; obtain ⟨hcc8, hff8⟩ := bcell hb8; have hs8 := hb8.size; (try simp at hs8); have hz8 : w.heap.size < w8.heap.size := (by omega); have hv8 : b < w8.heap.size := (by omega)))
          have hB8 : Below w.heap.size w w8 := hBr2.trans (hb8.mono (by omega))
          have HG8 := hide (HG1.out.grow hb8)
          have HA3 := hide hA3
          have HAg3 := hide hAg3
          have hg8 : g < wo2.heap.size := by omega
          clear hcc8 hff8 hb8 hA3 hAg3 HG1 HSr HMr f0 f1 f2 hB HM5 HS5 HG5 HA2 HAg2 g0 g1 g2 hB5 hBr hBr2
          go_loopw [70] (fun i wq => ∃ k : Nat, i = .int .i64 k ∧ k ≤ (ownLs T C B).length ∧ Mem g (((ownLs T C B).take k).foldl pass3 (redo2 T C B ws)) wq ∧ But g w8.heap.size w8 wq) (fun i _ => (ownLs T C B).length - (intOf i).toNat)
          case atStart => exact ⟨0, rfl, by omega, by simpa using HG8.out, (by repeat' (first | with_reducible exact But.refl _ _ _ | with_reducible assumption | with_reducible refine But.alloc ?_ ?_ _ | with_reducible refine But.setCell ?_ ?_ _ | with_reducible refine But.drew ?_ | with_reducible refine But.drewN ?_ _ | with_reducible refine But.of ?_ (Below.mono (by with_reducible assumption) ?_) | (left; rfl) | omega | (right; simp <;> omega) | (simp <;> omega)))⟩
          case round =>
            obtain ⟨k, rfl, hk, hG, hB⟩ := hrel
            have hsz3 := hB.size
            have HAr := hide (HA3.out.but hB (fun b off e => by have := HAg3.out b off e; omega))
            have HG := hide hG
            clear hG
            by_cases hlt : k < (ownLs T C B).length
            · obtain ⟨a, ha⟩ : ∃ a, (ownLs T C B)[k]? = some a := ⟨_, List.getElem?_eq_getElem hlt⟩
              have hin := ownLs_in hv (List.mem_of_getElem? ha)
              rw [HN.out] at hin
              obtain ⟨p, rfl⟩ : ∃ p : Nat, a = (p : Int) := ⟨a.toNat, by omega⟩
              obtain ⟨hp0, hp1⟩ := hin
              have hp1' : p < n := by omega
              obtain ⟨bA, off, rfl, hbA, hcA⟩ := rd_int HAr.out hlt ha
              have hst := foldl_take_succ pass3 (redo2 T C B ws) (ownLs T C B) ha
              unfold pass3 at hst
              rw [Int.toNat_natCast] at hst
              obtain ⟨o, ho⟩ : ∃ o, o = ((ownLs T C B).take k).foldl pass3 (redo2 T C B ws) := ⟨_, rfl⟩
              have HG2 : Hid (Mem g o wr) := by rw [ho]; exact HG
              have hol : o.length = n := by rw [ho, fold3_len, redo2, fold2_len, redo1, fold1_len, Hl.out]
              have Hst : Hid (((ownLs T C B).take (k + 1)).foldl pass3 (redo2 T C B ws) = o.set p z3) := by rw [ho]; exact hst
              obtain ⟨z, hz⟩ : ∃ z, o[p]? = some z := ⟨_, List.getElem?_eq_getElem (by omega)⟩
              have Hol := hide hol
              have hki : (0 : Int) ≤ (k : Int) := by omega
              have hkj : (k : Int) < ((ownLs T C B).length : Int) := by omega
              have s0 := HG2.out.w0 hz
              have s1 := HG2.out.w1 hz
              have s2 := HG2.out.w2 hz
              have sf := HG2.out.2.1
              clear hst ho hz ha HG hol
              go_wp2_with fail
              exact ⟨⟨k + 1, by go_num, by omega, by rw [Hst.out]; exact HG2.out.set3 (by rw [Hol.out]; omega) z3, (by repeat' (first | with_reducible exact But.refl _ _ _ | with_reducible assumption | with_reducible refine But.alloc ?_ ?_ _ | with_reducible refine But.setCell ?_ ?_ _ | with_reducible refine But.drew ?_ | with_reducible refine But.drewN ?_ _ | with_reducible refine But.of ?_ (Below.mono (by with_reducible assumption) ?_) | (left; rfl) | omega | (right; simp <;> omega) | (simp <;> omega)))⟩, by simp [intOf]; omega⟩
            · obtain rfl : k = (ownLs T C B).length := by omega
              have HG1 : Hid (Mem g R wr) := by have h := HG.out; rw [List.take_length] at h; rw [HR.out]; exact h
              have hBr3 : Below w.heap.size w wr := hB8.trans (hB.below (by omega) (by omega))
              go_wp2_with fail
              rw [HQ.out]
              exact ⟨g, cp, rfl, HG1.out, by omega, hcp, hcm, hBr3⟩
end Go.Proofs.YtbomhhkknopdpaaGreatDoor
