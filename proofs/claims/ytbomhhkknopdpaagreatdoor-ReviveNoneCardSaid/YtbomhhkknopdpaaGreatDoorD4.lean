/- Package desc: Read, where the head is not well-formed. -/
import Derived.Test.YtbomhhkknopdpaaGreatDoorD40
namespace Go.Proofs.YtbomhhkknopdpaaGreatDoor
set_option linter.unusedSimpArgs false
set_option linter.unusedVariables false
open Go.RowKit
set_option maxHeartbeats 16000000 in
set_option maxRecDepth 100000 in
theorem read_bad (T C B who N : Int) (b n cap p : Nat) (s c : W3) (ws : List W3) (w : World) (hv : Valid T C B) (hs : Sizes w) (h0 : -1000 ≤ who) (h1 : who ≤ 1000) (hM : Mem b ws w) (hl : ws.length = n) (hnm : n ≤ 1000000) (hok : ∀ x ∈ ws, x.ok)
    (hn : fromL T C B 7 ≤ n) (hP : placeL T C B who = (p : Int)) (hN : placeN T C B who = N) (hN0 : (N == 0) = false) (hN1 : 0 < N) (hN2 : N ≤ 32) (hpn : (p : Int) + 2 + 3 * N ≤ n) (hsw : ws[p]? = some s) (hcw : ws[p + 1]? = some c) (hf : headOK s c N = false) :
    Calls Tryz.prog 53 #[(.agg #[.int .i64 T, .int .i64 C, .int .i64 B]), .slice (some ⟨b, 0, none⟩) n cap, .int .i64 who] w fun e w' => ReadPost who none w e w' := by
  have hp := hs.pos
  have hb := hM.2.2
  obtain ⟨Q, hQ⟩ : ∃ Q : Ending → World → Prop, Q = ReadPost who none w := ⟨_, rfl⟩
  rw [← hQ]
  have HQ := hide hQ
  have Hf := hide hf
  clear hf
  have HP := hide hP
  have HN := hide hN
  have HM := hide hM
  have Hl := hide hl
  have Hok := hide hok
  have Hsw := hide hsw
  have Hcw := hide hcw
  have s0 := hM.w0 hsw
  have s1 := hM.w1 hsw
  have s2 := hM.w2 hsw
  have c0 := hM.w0 hcw
  have c1 := hM.w1 hcw
  have c2 := hM.w2 hcw
  have hnn : ¬ ((n : Int) < fromL T C B 7) := by omega
  have hb' : b < w.heap.size + 1 := by omega
  have hb'' : b < w.heap.size + 1 + 1 := by omega
  have hk0 : (0 : Int) ≤ (p : Int) := by omega
  have hk1 : (p : Int) < (n : Int) := by omega
  have hk2 : (0 : Int) ≤ (p : Int) + 1 := by omega
  have hk3 : (p : Int) + 1 < (n : Int) := by omega
  have hwk : IntKind.i64.wrap ((p : Int) + 1) = (p : Int) + 1 := IntWalk.i64_in _ (by omega)
  clear hP hN hM hl hok hsw hcw hQ
  go_enter Tryz.func53, Tryz.ntmps53
  go_upto_region 6 with (first
    | (go_at_call 12; refine (check_ok T C B _ hv (hs.below (by repeat' (first | with_reducible exact Below.refl _ _ | with_reducible assumption | with_reducible refine Below.alloc ?_ ?_ _ | with_reducible refine Below.setCell ?_ ?_ _ | with_reducible refine Below.drew ?_ | with_reducible refine below_drewN ?_ _ | with_reducible refine Below.trans ?_ (Below.mono (by with_reducible assumption) ?_) | omega | (simp <;> omega))))).mono ?_; rintro e w1 ⟨rfl, hb1⟩; obtain ⟨hcc1, hff1⟩ := bcell hb1; have hs1 := hb1.size; (try simp at hs1); have hz1 : w.heap.size < w1.heap.size := (by omega); have hy1 : w.heap.size + 1 < w1.heap.size := (by omega); have hq1 : 0 < w1.heap.size := (by omega); have hv1 : b < w1.heap.size := (by omega))
    | (go_at_call 21; refine (size_ok T C B _ hv (hs.below (by repeat' (first | with_reducible exact Below.refl _ _ | with_reducible assumption | with_reducible refine Below.alloc ?_ ?_ _ | with_reducible refine Below.setCell ?_ ?_ _ | with_reducible refine Below.drew ?_ | with_reducible refine below_drewN ?_ _ | with_reducible refine Below.trans ?_ (Below.mono (by with_reducible assumption) ?_) | omega | (simp <;> omega))))).mono ?_; rintro e w2 ⟨rfl, hb2⟩; obtain ⟨hcc2, hff2⟩ := bcell hb2; have hs2 := hb2.size; (try simp at hs2); have hz2 : w.heap.size < w2.heap.size := (by omega); have hy2 : w.heap.size + 1 < w2.heap.size := (by omega); have hq2 : 0 < w2.heap.size := (by omega); have hv2 : b < w2.heap.size := (by omega))
    | (go_at_call 19; refine (place_any T C B who _ hv (hs.below (by repeat' (first | with_reducible exact Below.refl _ _ | with_reducible assumption | with_reducible refine Below.alloc ?_ ?_ _ | with_reducible refine Below.setCell ?_ ?_ _ | with_reducible refine Below.drew ?_ | with_reducible refine below_drewN ?_ _ | with_reducible refine Below.trans ?_ (Below.mono (by with_reducible assumption) ?_) | omega | (simp <;> omega)))) h0 h1).mono ?_; rintro e w3 ⟨rfl, hb3⟩; rw [HP.out, HN.out]; obtain ⟨hcc3, hff3⟩ := bcell hb3; have hs3 := hb3.size; (try simp at hs3); have hz3 : w.heap.size < w3.heap.size := (by omega); have hy3 : w.heap.size + 1 < w3.heap.size := (by omega); have hq3 : 0 < w3.heap.size := (by omega); have hv3 : b < w3.heap.size := (by omega)))
  have s0' : w3.cell? ⟨b, p * 3, none⟩ = some (.int .i64 s.v) := by go_simp
  have s1' : w3.cell? ⟨b, p * 3 + 1, none⟩ = some (.int .u32 s.r) := by go_simp
  have s2' : w3.cell? ⟨b, p * 3 + 2, none⟩ = some (.int .u32 s.f) := by go_simp
  have c0' : w3.cell? ⟨b, (p + 1) * 3, none⟩ = some (.int .i64 c.v) := by go_simp
  have c1' : w3.cell? ⟨b, (p + 1) * 3 + 1, none⟩ = some (.int .u32 c.r) := by go_simp
  have c2' : w3.cell? ⟨b, (p + 1) * 3 + 2, none⟩ = some (.int .u32 c.f) := by go_simp
  have e0 : w3.cell? ⟨w.heap.size, 0, none⟩ = some (.int .i64 T) := by go_simp
  have e1 : w3.cell? ⟨w.heap.size, 1, none⟩ = some (.int .i64 C) := by go_simp
  have e2 : w3.cell? ⟨w.heap.size, 2, none⟩ = some (.int .i64 B) := by go_simp
  have r0 : w3.cell? ⟨w.heap.size + 1, 0, none⟩ = some (.int .i64 0) := by go_simp
  have r1 : w3.cell? ⟨w.heap.size + 1, 1, none⟩ = some (.int .i64 0) := by go_simp
  have r2 : w3.cell? ⟨w.heap.size + 1, 2, none⟩ = some (.int .i64 0) := by go_simp
  have r3 : w3.cell? ⟨w.heap.size + 1, 3, none⟩ = some (.slice none 0 0) := by go_simp
  have p0 : ∀ o, w3.frozen? ⟨w.heap.size + 1, o, none⟩ = false := fun o => by
    rw [hff3 _ _ (by omega), hff2 _ _ (by omega), hff1 _ _ (by simp)]
    exact World.frozen?_alloc_at _ _ _ _ (by simp)
  have hB3 : Below w.heap.size w w3 := (by repeat' (first | with_reducible exact Below.refl _ _ | with_reducible assumption | with_reducible refine Below.alloc ?_ ?_ _ | with_reducible refine Below.setCell ?_ ?_ _ | with_reducible refine Below.drew ?_ | with_reducible refine below_drewN ?_ _ | with_reducible refine Below.trans ?_ (Below.mono (by with_reducible assumption) ?_) | omega | (simp <;> omega)))
  have HM3 := hide (HM.out.grow hB3)
  have hs3' := hs.below hB3
  have hnb : ¬ w3.heap.size = b := by omega
  have hnb2 : ¬ w3.heap.size + 1 = b := by omega
  clear hcc1 hff1 hcc2 hff2 hcc3 hff3 hb1 hb2 hb3 s0 s1 s2 c0 c1 c2
  go_cut [10, 11] (fun s10 s11 wx => ∃ B1 B2 : Nat, s10 = .pointer (some ⟨B1, 0, none⟩) ∧ s11 = .pointer (some ⟨B2, 0, none⟩) ∧ w3.heap.size ≤ B1 ∧ w3.heap.size ≤ B2 ∧ B1 < wx.heap.size ∧ B2 < wx.heap.size ∧ (wx.cell? ⟨B1, 0, none⟩ = some (.int .i64 s.v) ∧ wx.cell? ⟨B1, 1, none⟩ = some (.int .u32 s.r) ∧ wx.cell? ⟨B1, 2, none⟩ = some (.int .u32 s.f)) ∧ (wx.cell? ⟨B2, 0, none⟩ = some (.int .i64 c.v) ∧ wx.cell? ⟨B2, 1, none⟩ = some (.int .u32 c.r) ∧ wx.cell? ⟨B2, 2, none⟩ = some (.int .u32 c.f)) ∧ Below w3.heap.size w3 wx)
  case first =>
    go_region_held3 (fun w' => w'.cell? ⟨b, p * 3, none⟩ = some (.int .i64 s.v) ∧ w'.cell? ⟨b, p * 3 + 1, none⟩ = some (.int .u32 s.r) ∧ w'.cell? ⟨b, p * 3 + 2, none⟩ = some (.int .u32 s.f) ∧ w'.cell? ⟨b, (p + 1) * 3, none⟩ = some (.int .i64 c.v) ∧ w'.cell? ⟨b, (p + 1) * 3 + 1, none⟩ = some (.int .u32 c.r) ∧ w'.cell? ⟨b, (p + 1) * 3 + 2, none⟩ = some (.int .u32 c.f))
      (first | exact ⟨by go_simp, by go_simp, by go_simp, by go_simp, by go_simp, by go_simp⟩ | go_keep)
      (fail)
    all_goals go_wp2_with fail
    all_goals go_meet
    all_goals exact ⟨_, _, rfl, rfl, by omega, by omega, by (try simp) <;> (try omega), by (try simp) <;> (try omega), ⟨by go_simp, by go_simp, by go_simp⟩, ⟨by go_simp, by go_simp, by go_simp⟩, (by repeat' (first | with_reducible exact Below.refl _ _ | with_reducible assumption | with_reducible refine Below.alloc ?_ ?_ _ | with_reducible refine Below.setCell ?_ ?_ _ | with_reducible refine Below.drew ?_ | with_reducible refine below_drewN ?_ _ | with_reducible refine Below.trans ?_ (Below.mono (by with_reducible assumption) ?_) | omega | (simp <;> omega)))⟩
  case rest =>
    obtain ⟨B1, B2, rfl, rfl, g1, g2, g3, g4, ⟨sb0, sb1, sb2⟩, ⟨cb0, cb1, cb2⟩, hBc⟩ := hcut
    have hbc : ∀ x o, x < w3.heap.size → wc.cell? ⟨x, o, none⟩ = w3.cell? ⟨x, o, none⟩ := fun x o hx => hBc.cell (p := ⟨x, o, none⟩) hx
    have r0c := (hbc _ 0 hy3).trans r0
    have r1c := (hbc _ 1 hy3).trans r1
    have r2c := (hbc _ 2 hy3).trans r2
    have r3c := (hbc _ 3 hy3).trans r3
    have e0c := (hbc _ 0 hz3).trans e0
    have e1c := (hbc _ 1 hz3).trans e1
    have e2c := (hbc _ 2 hz3).trans e2
    have p0c : ∀ o, wc.frozen? ⟨w.heap.size + 1, o, none⟩ = false := fun o => (hBc.frozen (p := ⟨w.heap.size + 1, o, none⟩) hy3).trans (p0 o)
    have HMc := hide (HM3.out.grow hBc)
    have hsc := hs3'.below hBc
    have hsz := hBc.size
    have hBwc : Below w.heap.size w wc := hB3.trans (hBc.mono hB3.size)
    have hzc : w.heap.size < wc.heap.size := by omega
    have hyc : w.heap.size + 1 < wc.heap.size := by omega
    clear hbc r0 r1 r2 r3 e0 e1 e2 s0' s1' s2' c0' c1' c2' p0
    by_cases a1 : s.v < 0
    · skip
      go_wp2_with fail
      exact bodyPost_ret (v := .tuple #[.agg #[.int .i64 0, .int .i64 0, .int .i64 0, .slice none 0 0], .int .i64 5]) (by simp [results, Tryz.results53, go_sem, r0c, r1c, r2c, r3c]) rfl (by rw [HQ.out]; exact ⟨5, by decide, rfl, (by repeat' (first | with_reducible exact Below.refl _ _ | with_reducible assumption | with_reducible refine Below.alloc ?_ ?_ _ | with_reducible refine Below.setCell ?_ ?_ _ | with_reducible refine Below.drew ?_ | with_reducible refine below_drewN ?_ _ | with_reducible refine Below.trans ?_ (Below.mono (by with_reducible assumption) ?_) | omega | (simp <;> omega)))⟩)
    by_cases a2 : 3 < s.v
    · skip
      go_wp2_with fail
      exact bodyPost_ret (v := .tuple #[.agg #[.int .i64 0, .int .i64 0, .int .i64 0, .slice none 0 0], .int .i64 5]) (by simp [results, Tryz.results53, go_sem, r0c, r1c, r2c, r3c]) rfl (by rw [HQ.out]; exact ⟨5, by decide, rfl, (by repeat' (first | with_reducible exact Below.refl _ _ | with_reducible assumption | with_reducible refine Below.alloc ?_ ?_ _ | with_reducible refine Below.setCell ?_ ?_ _ | with_reducible refine Below.drew ?_ | with_reducible refine below_drewN ?_ _ | with_reducible refine Below.trans ?_ (Below.mono (by with_reducible assumption) ?_) | omega | (simp <;> omega)))⟩)
    cases a3 : (s.f != 0) with
    | true =>
      go_wp2_with fail
      exact bodyPost_ret (v := .tuple #[.agg #[.int .i64 0, .int .i64 0, .int .i64 0, .slice none 0 0], .int .i64 5]) (by simp [results, Tryz.results53, go_sem, r0c, r1c, r2c, r3c]) rfl (by rw [HQ.out]; exact ⟨5, by decide, rfl, (by repeat' (first | with_reducible exact Below.refl _ _ | with_reducible assumption | with_reducible refine Below.alloc ?_ ?_ _ | with_reducible refine Below.setCell ?_ ?_ _ | with_reducible refine Below.drew ?_ | with_reducible refine below_drewN ?_ _ | with_reducible refine Below.trans ?_ (Below.mono (by with_reducible assumption) ?_) | omega | (simp <;> omega)))⟩)
    | false =>
    by_cases a4 : c.v < 1
    · skip
      go_wp2_with fail
      exact bodyPost_ret (v := .tuple #[.agg #[.int .i64 0, .int .i64 0, .int .i64 0, .slice none 0 0], .int .i64 5]) (by simp [results, Tryz.results53, go_sem, r0c, r1c, r2c, r3c]) rfl (by rw [HQ.out]; exact ⟨5, by decide, rfl, (by repeat' (first | with_reducible exact Below.refl _ _ | with_reducible assumption | with_reducible refine Below.alloc ?_ ?_ _ | with_reducible refine Below.setCell ?_ ?_ _ | with_reducible refine Below.drew ?_ | with_reducible refine below_drewN ?_ _ | with_reducible refine Below.trans ?_ (Below.mono (by with_reducible assumption) ?_) | omega | (simp <;> omega)))⟩)
    by_cases a5 : N < c.v
    · skip
      go_wp2_with fail
      exact bodyPost_ret (v := .tuple #[.agg #[.int .i64 0, .int .i64 0, .int .i64 0, .slice none 0 0], .int .i64 5]) (by simp [results, Tryz.results53, go_sem, r0c, r1c, r2c, r3c]) rfl (by rw [HQ.out]; exact ⟨5, by decide, rfl, (by repeat' (first | with_reducible exact Below.refl _ _ | with_reducible assumption | with_reducible refine Below.alloc ?_ ?_ _ | with_reducible refine Below.setCell ?_ ?_ _ | with_reducible refine Below.drew ?_ | with_reducible refine below_drewN ?_ _ | with_reducible refine Below.trans ?_ (Below.mono (by with_reducible assumption) ?_) | omega | (simp <;> omega)))⟩)
    have hne := neqWord c ⟨c.v, 0, 0⟩
    cases a6 : eq3 c ⟨c.v, 0, 0⟩ with
    | false =>
      rw [a6] at hne
      simp only [Bool.not_false] at hne
      go_wp2_with fail
      exact bodyPost_ret (v := .tuple #[.agg #[.int .i64 0, .int .i64 0, .int .i64 0, .slice none 0 0], .int .i64 5]) (by simp [results, Tryz.results53, go_sem, r0c, r1c, r2c, r3c]) rfl (by rw [HQ.out]; exact ⟨5, by decide, rfl, (by repeat' (first | with_reducible exact Below.refl _ _ | with_reducible assumption | with_reducible refine Below.alloc ?_ ?_ _ | with_reducible refine Below.setCell ?_ ?_ _ | with_reducible refine Below.drew ?_ | with_reducible refine below_drewN ?_ _ | with_reducible refine Below.trans ?_ (Below.mono (by with_reducible assumption) ?_) | omega | (simp <;> omega)))⟩)
    | true =>
      have a3' : (s.f == 0) = true := by simpa using a3
      have h := Hf.out
      unfold headOK at h
      rw [a3', a6, decide_eq_true (show 0 ≤ s.v by omega), decide_eq_true (show s.v ≤ 3 by omega), decide_eq_true (show 1 ≤ c.v by omega), decide_eq_true (show c.v ≤ N by omega)] at h
      exact absurd h (by simp)
end Go.Proofs.YtbomhhkknopdpaaGreatDoor
