/- Package desc: Logical. -/
import Derived.Test.YtbomhhkknopdpaaGreatDoorR0
namespace Go.Proofs.YtbomhhkknopdpaaGreatDoor
set_option linter.unusedSimpArgs false
set_option linter.unusedVariables false
open Go.RowKit
set_option maxHeartbeats 4000000 in
set_option maxRecDepth 100000 in
theorem logical_no (T C B a : Int) (b n cap : Nat) (w : World) (hv : Valid T C B) (hs : Sizes w) (h0 : -1000000 ≤ a) (h1 : a ≤ 1000000) (hb : b < w.heap.size) (hn : fromL T C B 7 ≤ n) (hP : mayL T C B a = false) :
    Calls Tryz.prog 24 #[(.agg #[.int .i64 T, .int .i64 C, .int .i64 B]), .slice (some ⟨b, 0, none⟩) n cap, .int .i64 a] w fun e w' => e = .returned (.tuple #[.agg #[.int .i64 0, .int .u32 0, .int .u32 0], .int .i64 10]) ∧ Below w.heap.size w w' := by
  have hp := hs.pos
  have HP := hide hP
  have hnn : ¬ ((n : Int) < fromL T C B 7) := by omega
  clear hP
  go_enter Tryz.func24, Tryz.ntmps24
  go_wp2_with (first
    | (go_at_call 12; refine (check_ok T C B _ hv (hs.below (by repeat' (first | with_reducible exact Below.refl _ _ | with_reducible assumption | with_reducible refine Below.alloc ?_ ?_ _ | with_reducible refine Below.setCell ?_ ?_ _ | with_reducible refine Below.drew ?_ | with_reducible refine below_drewN ?_ _ | with_reducible refine Below.trans ?_ (Below.mono (by with_reducible assumption) ?_) | omega | (simp <;> omega))))).mono ?_; rintro e w1 ⟨rfl, hb1⟩; obtain ⟨hcc1, hff1⟩ := bcell hb1; have hs1 := hb1.size; (try simp at hs1); have hz1 : w.heap.size < w1.heap.size := (by omega); have hy1 : w.heap.size + 1 < w1.heap.size := (by omega); have hq1 : 0 < w1.heap.size := (by omega); have hv1 : b < w1.heap.size := (by omega))
    | (go_at_call 21; refine (size_ok T C B _ hv (hs.below (by repeat' (first | with_reducible exact Below.refl _ _ | with_reducible assumption | with_reducible refine Below.alloc ?_ ?_ _ | with_reducible refine Below.setCell ?_ ?_ _ | with_reducible refine Below.drew ?_ | with_reducible refine below_drewN ?_ _ | with_reducible refine Below.trans ?_ (Below.mono (by with_reducible assumption) ?_) | omega | (simp <;> omega))))).mono ?_; rintro e w2 ⟨rfl, hb2⟩; obtain ⟨hcc2, hff2⟩ := bcell hb2; have hs2 := hb2.size; (try simp at hs2); have hz2 : w.heap.size < w2.heap.size := (by omega); have hy2 : w.heap.size + 1 < w2.heap.size := (by omega); have hq2 : 0 < w2.heap.size := (by omega); have hv2 : b < w2.heap.size := (by omega))
    | (go_at_call 51; refine (may_ok T C B _ _ hv (hs.below (by repeat' (first | with_reducible exact Below.refl _ _ | with_reducible assumption | with_reducible refine Below.alloc ?_ ?_ _ | with_reducible refine Below.setCell ?_ ?_ _ | with_reducible refine Below.drew ?_ | with_reducible refine below_drewN ?_ _ | with_reducible refine Below.trans ?_ (Below.mono (by with_reducible assumption) ?_) | omega | (simp <;> omega)))) h0 h1).mono ?_; rintro e w3 ⟨rfl, hb3⟩; rw [HP.out]; obtain ⟨hcc3, hff3⟩ := bcell hb3; have hs3 := hb3.size; (try simp at hs3); have hz3 : w.heap.size < w3.heap.size := (by omega); have hy3 : w.heap.size + 1 < w3.heap.size := (by omega); have hq3 : 0 < w3.heap.size := (by omega); have hv3 : b < w3.heap.size := (by omega)))
  have r0 : w3.cell? ⟨w.heap.size + 1, 0, none⟩ = some (.int .i64 0) := by go_simp
  have r1 : w3.cell? ⟨w.heap.size + 1, 1, none⟩ = some (.int .u32 0) := by go_simp
  have r2 : w3.cell? ⟨w.heap.size + 1, 2, none⟩ = some (.int .u32 0) := by go_simp
  exact bodyPost_ret (v := .tuple #[.agg #[.int .i64 0, .int .u32 0, .int .u32 0], .int .i64 10]) (by simp [results, Tryz.results24, go_sem, r0, r1, r2]) rfl ⟨rfl, (by repeat' (first | with_reducible exact Below.refl _ _ | with_reducible assumption | with_reducible refine Below.alloc ?_ ?_ _ | with_reducible refine Below.setCell ?_ ?_ _ | with_reducible refine Below.drew ?_ | with_reducible refine below_drewN ?_ _ | with_reducible refine Below.trans ?_ (Below.mono (by with_reducible assumption) ?_) | omega | (simp <;> omega)))⟩
def LogPost (x : W3) (er : Int) (w : World) (e : Ending) (w' : World) : Prop := e = .returned (.tuple #[.agg #[.int .i64 x.v, .int .u32 x.r, .int .u32 x.f], .int .i64 er]) ∧ Below w.heap.size w w'
set_option maxHeartbeats 16000000 in
set_option maxRecDepth 100000 in
theorem logical_may (T C B : Int) (b n cap p : Nat) (x : W3) (who seq : Int) (ws : List W3) (w : World) (hv : Valid T C B) (hs : Sizes w) (hM : Mem b ws w) (hl : ws.length = n) (hnm : n ≤ 1000000) (hcap : n ≤ cap) (hok : ∀ x ∈ ws, x.ok) (hn : fromL T C B 7 ≤ n)
    (hP : mayL T C B p = true) (hx : ws[p]? = some x) (hw : whoL x.f = (who, seq)) :
    Calls Tryz.prog 24 #[(.agg #[.int .i64 T, .int .i64 C, .int .i64 B]), .slice (some ⟨b, 0, none⟩) n cap, .int .i64 p] w (LogPost (logicalL T C B ws p) 0 w) := by
  have hpos := hs.pos
  have hb := hM.2.2
  have HP := hide hP
  have HW := hide hw
  have HM := hide hM
  have hx0 : ws.getD p z3 = x := by rw [List.getD_eq_getElem?_getD, hx]; rfl
  have hlog : logicalL T C B ws p = if who = 0 then plainW x else match readL T C B ws who with
    | none => plainW x
    | some (sq, st, es) => if sq = seq ∧ st = 1 then
        match es.find? (fun y => y.a == (p : Int) && y.w) with
        | none => plainW x
        | some y => ⟨y.n, up32 x.r, 0⟩
      else plainW x := by unfold logicalL; simp only [hx0, hw]; rfl
  have hxok := hok x (List.mem_of_getElem? hx)
  obtain ⟨-, -, hx2, hx3, hx4, hx5⟩ := hxok
  have hwb : 0 ≤ who ∧ who ≤ 72 := by
    unfold whoL at hw
    split at hw
    · injection hw with h _; omega
    · injection hw with h _; omega
  obtain ⟨hwb1, hwb2⟩ := hwb
  obtain ⟨R, hR⟩ : ∃ R, R = logicalL T C B ws p := ⟨_, rfl⟩
  rw [← hR]
  rw [← hR] at hlog
  have Hlog := hide hlog
  have hpn : p < n := by rw [← hl]; exact (List.getElem?_eq_some_iff.1 hx).1
  have h0 : (-1000000 : Int) ≤ (p : Int) := by omega
  have h1 : (p : Int) ≤ 1000000 := by omega
  have hk0 : (0 : Int) ≤ (p : Int) := by omega
  have hk1 : (p : Int) < (n : Int) := by omega
  have s0 := hM.w0 hx
  have s1 := hM.w1 hx
  have s2 := hM.w2 hx
  have hrd := fun (W : World) (hs' : Sizes W) (hM' : Mem b ws W) => read_any T C B who b n cap ws W hv hs' (by omega) (by omega) hM' hl hnm hcap hok hn
  have Hrd := hide hrd
  have hnn : ¬ ((n : Int) < fromL T C B 7) := by omega
  have hb' : b < w.heap.size + 1 := by omega
  have hb'' : b < w.heap.size + 1 + 1 := by omega
  clear hP hw hM hx hx0 hlog hR hrd hok hl
  go_enter Tryz.func24, Tryz.ntmps24
  go_upto_region 8 with (first
    | (go_at_call 12; refine (check_ok T C B _ hv (hs.below (by repeat' (first | with_reducible exact Below.refl _ _ | with_reducible assumption | with_reducible refine Below.alloc ?_ ?_ _ | with_reducible refine Below.setCell ?_ ?_ _ | with_reducible refine Below.drew ?_ | with_reducible refine below_drewN ?_ _ | with_reducible refine Below.trans ?_ (Below.mono (by with_reducible assumption) ?_) | omega | (simp <;> omega))))).mono ?_; rintro e w1 ⟨rfl, hb1⟩; obtain ⟨hcc1, hff1⟩ := bcell hb1; have hs1 := hb1.size; (try simp at hs1); have hz1 : w.heap.size < w1.heap.size := (by omega); have hy1 : w.heap.size + 1 < w1.heap.size := (by omega); have hq1 : 0 < w1.heap.size := (by omega); have hv1 : b < w1.heap.size := (by omega))
    | (go_at_call 21; refine (size_ok T C B _ hv (hs.below (by repeat' (first | with_reducible exact Below.refl _ _ | with_reducible assumption | with_reducible refine Below.alloc ?_ ?_ _ | with_reducible refine Below.setCell ?_ ?_ _ | with_reducible refine Below.drew ?_ | with_reducible refine below_drewN ?_ _ | with_reducible refine Below.trans ?_ (Below.mono (by with_reducible assumption) ?_) | omega | (simp <;> omega))))).mono ?_; rintro e w2 ⟨rfl, hb2⟩; obtain ⟨hcc2, hff2⟩ := bcell hb2; have hs2 := hb2.size; (try simp at hs2); have hz2 : w.heap.size < w2.heap.size := (by omega); have hy2 : w.heap.size + 1 < w2.heap.size := (by omega); have hq2 : 0 < w2.heap.size := (by omega); have hv2 : b < w2.heap.size := (by omega))
    | (go_at_call 51; refine (may_ok T C B _ _ hv (hs.below (by repeat' (first | with_reducible exact Below.refl _ _ | with_reducible assumption | with_reducible refine Below.alloc ?_ ?_ _ | with_reducible refine Below.setCell ?_ ?_ _ | with_reducible refine Below.drew ?_ | with_reducible refine below_drewN ?_ _ | with_reducible refine Below.trans ?_ (Below.mono (by with_reducible assumption) ?_) | omega | (simp <;> omega)))) h0 h1).mono ?_; rintro e w3 ⟨rfl, hb3⟩; rw [HP.out]; obtain ⟨hcc3, hff3⟩ := bcell hb3; have hs3 := hb3.size; (try simp at hs3); have hz3 : w.heap.size < w3.heap.size := (by omega); have hy3 : w.heap.size + 1 < w3.heap.size := (by omega); have hq3 : 0 < w3.heap.size := (by omega); have hv3 : b < w3.heap.size := (by omega))
    | (go_at_call 52; refine (who_any x.f _ hx4 hx5).mono ?_; rintro e w4 ⟨rfl, rfl⟩; rw [HW.out]))
  have r0 : w3.cell? ⟨w.heap.size + 1, 0, none⟩ = some (.int .i64 0) := by go_simp
  have r1 : w3.cell? ⟨w.heap.size + 1, 1, none⟩ = some (.int .u32 0) := by go_simp
  have r2 : w3.cell? ⟨w.heap.size + 1, 2, none⟩ = some (.int .u32 0) := by go_simp
  have e0 : w3.cell? ⟨w.heap.size, 0, none⟩ = some (.int .i64 T) := by go_simp
  have e1 : w3.cell? ⟨w.heap.size, 1, none⟩ = some (.int .i64 C) := by go_simp
  have e2 : w3.cell? ⟨w.heap.size, 2, none⟩ = some (.int .i64 B) := by go_simp
  have p0 : ∀ o, w3.frozen? ⟨w.heap.size + 1, o, none⟩ = false := fun o => by
    rw [hff3 _ _ (by omega), hff2 _ _ (by omega), hff1 _ _ (by simp)]
    exact World.frozen?_alloc_at _ _ _ _ (by simp)
  have hB3 : Below w.heap.size w w3 := (by repeat' (first | with_reducible exact Below.refl _ _ | with_reducible assumption | with_reducible refine Below.alloc ?_ ?_ _ | with_reducible refine Below.setCell ?_ ?_ _ | with_reducible refine Below.drew ?_ | with_reducible refine below_drewN ?_ _ | with_reducible refine Below.trans ?_ (Below.mono (by with_reducible assumption) ?_) | omega | (simp <;> omega)))
  have HM3 := hide (HM.out.grow hB3)
  have hs3' := hs.below hB3
  have HS := hide hs3'
  clear hcc1 hff1 hcc2 hff2 hcc3 hff3 hb1 hb2 hb3 s0 s1 s2 hs3'
  by_cases hw0 : who = 0
  · subst hw0
    have hlg : R = plainW x := by rw [Hlog.out]; rfl
    have Hlg := hide hlg
    clear hlg
    go_wp2_with fail
    have hn1 : w.heap.size + 1 < w3.heap.size + 1 := by omega
    exact bodyPost_ret (v := .tuple #[.agg #[.int .i64 x.v, .int .u32 x.r, .int .u32 0], .int .i64 0]) (by simp [results, Tryz.results24, go_sem, r0, r1, r2, hy3, hn1]) rfl (by rw [Hlg.out]; exact ⟨rfl, (by repeat' (first | with_reducible exact Below.refl _ _ | with_reducible assumption | with_reducible refine Below.alloc ?_ ?_ _ | with_reducible refine Below.setCell ?_ ?_ _ | with_reducible refine Below.drew ?_ | with_reducible refine below_drewN ?_ _ | with_reducible refine Below.trans ?_ (Below.mono (by with_reducible assumption) ?_) | omega | (simp <;> omega)))⟩)
  have hwz : (who == 0) = false := by simpa using hw0
  have HR := Hlog.out
  rw [if_neg hw0] at HR
  have Hlog2 := hide HR
  clear HR Hlog hw0
  cases hrL : readL T C B ws who with
  | none =>
    have hlg : R = plainW x := by rw [Hlog2.out, hrL]
    have Hlg := hide hlg
    clear hlg
    have HrL := hide hrL
    clear hrL
    go_wp2_with (first
      | (go_at_call 53; refine (Hrd.out _ (HS.out.below (by repeat' (first | with_reducible exact Below.refl _ _ | with_reducible assumption | with_reducible refine Below.alloc ?_ ?_ _ | with_reducible refine Below.setCell ?_ ?_ _ | with_reducible refine Below.drew ?_ | with_reducible refine below_drewN ?_ _ | with_reducible refine Below.trans ?_ (Below.mono (by with_reducible assumption) ?_) | omega | (simp <;> omega)))) (HM3.out.grow (by repeat' (first | with_reducible exact Below.refl _ _ | with_reducible assumption | with_reducible refine Below.alloc ?_ ?_ _ | with_reducible refine Below.setCell ?_ ?_ _ | with_reducible refine Below.drew ?_ | with_reducible refine below_drewN ?_ _ | with_reducible refine Below.trans ?_ (Below.mono (by with_reducible assumption) ?_) | omega | (simp <;> omega))))).mono ?_; rw [HrL.out]; rintro e w5 ⟨er, her, rfl, hb5⟩; obtain ⟨hcc5, hff5⟩ := bcell hb5; have hs5 := hb5.size; (try simp at hs5); have hz5 : w.heap.size < w5.heap.size := (by omega); have hy5 : w.heap.size + 1 < w5.heap.size := (by omega); have hx5' : w3.heap.size + 1 < w5.heap.size := (by omega); have herb : (er != 0) = true := (by simpa using her)))
    have t0 : w5.cell? ⟨w.heap.size + 1, 0, none⟩ = some (.int .i64 0) := by go_simp
    have t1 : w5.cell? ⟨w.heap.size + 1, 1, none⟩ = some (.int .u32 0) := by go_simp
    have t2 : w5.cell? ⟨w.heap.size + 1, 2, none⟩ = some (.int .u32 0) := by go_simp
    exact bodyPost_ret (v := .tuple #[.agg #[.int .i64 x.v, .int .u32 x.r, .int .u32 0], .int .i64 0]) (by simp [results, Tryz.results24, go_sem, t0, t1, t2, hy5]) rfl (by rw [Hlg.out]; exact ⟨rfl, (by repeat' (first | with_reducible exact Below.refl _ _ | with_reducible assumption | with_reducible refine Below.alloc ?_ ?_ _ | with_reducible refine Below.setCell ?_ ?_ _ | with_reducible refine Below.drew ?_ | with_reducible refine below_drewN ?_ _ | with_reducible refine Below.trans ?_ (Below.mono (by with_reducible assumption) ?_) | omega | (simp <;> omega)))⟩)
  | some r =>
    obtain ⟨sq, st, es⟩ := r
    have hlg : R = if sq = seq ∧ st = 1 then
        match es.find? (fun y => y.a == (p : Int) && y.w) with
        | none => plainW x
        | some y => ⟨y.n, up32 x.r, 0⟩
      else plainW x := by rw [Hlog2.out, hrL]
    have Hlg := hide hlg
    clear hlg
    have HrL := hide hrL
    clear hrL
    by_cases hq1 : sq = seq
    · by_cases hq2 : st = 1
      · subst hq1 hq2
        have hlg : R = match es.find? (fun y => y.a == (p : Int) && y.w) with
          | none => plainW x
          | some y => ⟨y.n, up32 x.r, 0⟩ := by rw [Hlg.out, if_pos ⟨rfl, rfl⟩]
        have Hlg3 := hide hlg
        have hqa : (sq != sq) = false := by simp
        have hes32 := readL_len HrL.out
        clear hlg Hlg
        go_wp2_with (first
          | (go_at_call 53; refine (Hrd.out _ (HS.out.below (by repeat' (first | with_reducible exact Below.refl _ _ | with_reducible assumption | with_reducible refine Below.alloc ?_ ?_ _ | with_reducible refine Below.setCell ?_ ?_ _ | with_reducible refine Below.drew ?_ | with_reducible refine below_drewN ?_ _ | with_reducible refine Below.trans ?_ (Below.mono (by with_reducible assumption) ?_) | omega | (simp <;> omega)))) (HM3.out.grow (by repeat' (first | with_reducible exact Below.refl _ _ | with_reducible assumption | with_reducible refine Below.alloc ?_ ?_ _ | with_reducible refine Below.setCell ?_ ?_ _ | with_reducible refine Below.drew ?_ | with_reducible refine below_drewN ?_ _ | with_reducible refine Below.trans ?_ (Below.mono (by with_reducible assumption) ?_) | omega | (simp <;> omega))))).mono ?_; rw [HrL.out]; rintro e w5 ⟨A, cp, rfl, hA, hcp, hb5⟩; obtain ⟨hcc5, hff5⟩ := bcell hb5; have hs5 := hb5.size; (try simp at hs5); have hz5 : w.heap.size < w5.heap.size := (by omega); have hy5 : w.heap.size + 1 < w5.heap.size := (by omega); have hx5' : w3.heap.size + 1 < w5.heap.size := (by omega)))
        have t0 : w5.cell? ⟨w.heap.size + 1, 0, none⟩ = some (.int .i64 0) := by go_simp
        have t1 : w5.cell? ⟨w.heap.size + 1, 1, none⟩ = some (.int .u32 0) := by go_simp
        have t2 : w5.cell? ⟨w.heap.size + 1, 2, none⟩ = some (.int .u32 0) := by go_simp
        have x8v : w5.cell? ⟨w3.heap.size, 0, none⟩ = some (.int .i64 x.v) := by go_simp
        have x8r : w5.cell? ⟨w3.heap.size, 1, none⟩ = some (.int .u32 x.r) := by go_simp
        have x8f : w5.cell? ⟨w3.heap.size, 2, none⟩ = some (.int .u32 x.f) := by go_simp
        have x11v : w5.cell? ⟨w3.heap.size + 1, 0, none⟩ = some (.int .i64 x.v) := by go_simp
        have x11r : w5.cell? ⟨w3.heap.size + 1, 1, none⟩ = some (.int .u32 x.r) := by go_simp
        have x11f : w5.cell? ⟨w3.heap.size + 1, 2, none⟩ = some (.int .u32 0) := by go_simp
        have p5 : ∀ o, w5.frozen? ⟨w.heap.size + 1, o, none⟩ = false := fun o => by rw [hff5 _ _ (by simp; omega)]; go_simp
        have hB5 : Below w.heap.size w w5 := by
          have h1 : Below w3.heap.size w3 w5 := (by repeat' (first | with_reducible exact Below.refl _ _ | with_reducible assumption | with_reducible refine Below.alloc ?_ ?_ _ | with_reducible refine Below.setCell ?_ ?_ _ | with_reducible refine Below.drew ?_ | with_reducible refine below_drewN ?_ _ | with_reducible refine Below.trans ?_ (Below.mono (by with_reducible assumption) ?_) | omega | (simp <;> omega)))
          exact hB3.trans (h1.mono hB3.size)
        have HA := hide hA
        have Hcp := hide hcp
        clear hcc5 hff5 hb5 r0 r1 r2 e0 e1 e2 p0 hA hcp
        go_loopw [76] (fun i wr => ∃ k : Nat, i = .int .i64 k ∧ k ≤ es.length ∧ (es.take k).find? (fun y => y.a == (p : Int) && y.w) = none ∧ Below w5.heap.size w5 wr) (fun i _ => es.length - (intOf i).toNat)
        case atStart => exact ⟨0, rfl, by omega, rfl, (by repeat' (first | with_reducible exact Below.refl _ _ | with_reducible assumption | with_reducible refine Below.alloc ?_ ?_ _ | with_reducible refine Below.setCell ?_ ?_ _ | with_reducible refine Below.drew ?_ | with_reducible refine below_drewN ?_ _ | with_reducible refine Below.trans ?_ (Below.mono (by with_reducible assumption) ?_) | omega | (simp <;> omega)))⟩
        case round =>
          obtain ⟨k, rfl, hk, hno, hB⟩ := hrel
          have hsz := hB.size
          have hbc : ∀ x o, x < w5.heap.size → wr.cell? ⟨x, o, none⟩ = w5.cell? ⟨x, o, none⟩ := fun x o hx => hB.cell (p := ⟨x, o, none⟩) hx
          have u0 := (hbc _ 0 hy5).trans t0
          have u1 := (hbc _ 1 hy5).trans t1
          have u2 := (hbc _ 2 hy5).trans t2
          have y8v := (hbc _ 0 (show w3.heap.size < w5.heap.size by omega)).trans x8v
          have y8r := (hbc _ 1 (show w3.heap.size < w5.heap.size by omega)).trans x8r
          have y8f := (hbc _ 2 (show w3.heap.size < w5.heap.size by omega)).trans x8f
          have y11v := (hbc _ 0 hx5').trans x11v
          have y11r := (hbc _ 1 hx5').trans x11r
          have y11f := (hbc _ 2 hx5').trans x11f
          have pr : ∀ o, wr.frozen? ⟨w.heap.size + 1, o, none⟩ = false := fun o => (hB.frozen (p := ⟨w.heap.size + 1, o, none⟩) hy5).trans (p5 o)
          have hyr : w.heap.size + 1 < wr.heap.size := by omega
          have hzr : w3.heap.size + 1 < wr.heap.size := by omega
          have hqr : w3.heap.size < wr.heap.size := by omega
          have hBr : Below w.heap.size w wr := hB5.trans (hB.mono hB5.size)
          clear hbc t0 t1 t2 x8v x8r x8f x11v x11r x11f p5
          by_cases hlt : k < es.length
          · have hz1 : es[k]? = some (es[k]'hlt) := List.getElem?_eq_getElem _
            obtain ⟨b2, off, rfl, hbb, hcA⟩ := HA.out.elem (fun _ => rfl) hlt hz1
            obtain ⟨e, he⟩ : ∃ e, e = es[k]'hlt := ⟨_, rfl⟩
            rw [← he] at hcA hz1
            have hbw : ∀ j u, (ec e)[j]? = some u → wr.cell? ⟨b2, off + k * 6 + j, none⟩ = some u := fun j u hu => (hB.cell (p := ⟨b2, off + k * 6 + j, none⟩) hbb).trans (hcA j u hu)
            have l0 : wr.cell? ⟨b2, off + k * 6, none⟩ = some (.int .i64 e.a) := hbw 0 _ rfl
            have l1 : wr.cell? ⟨b2, off + k * 6 + 1, none⟩ = some (.int .i64 e.o.v) := hbw 1 _ rfl
            have l2 : wr.cell? ⟨b2, off + k * 6 + 2, none⟩ = some (.int .u32 e.o.r) := hbw 2 _ rfl
            have l3 : wr.cell? ⟨b2, off + k * 6 + 3, none⟩ = some (.int .u32 e.o.f) := hbw 3 _ rfl
            have l4 : wr.cell? ⟨b2, off + k * 6 + 4, none⟩ = some (.int .i64 e.n) := hbw 4 _ rfl
            have l5 : wr.cell? ⟨b2, off + k * 6 + 5, none⟩ = some (.bool e.w) := hbw 5 _ rfl
            have hki : (0 : Int) ≤ (k : Int) := by omega
            have hkj : (k : Int) < (es.length : Int) := by omega
            have hes : es = es.take k ++ e :: es.drop (k + 1) := by
              rw [he, ← List.drop_eq_getElem_cons hlt, List.take_append_drop]
            have htk : es.take (k + 1) = es.take k ++ [e] := by rw [List.take_add_one, hz1]; rfl
            have Hes := hide hes
            have Htk := hide htk
            have Hno := hide hno
            clear hcA hbw he hz1 hes htk hno
            cases ha1 : (e.a == (p : Int)) with
            | true =>
              cases ha2 : e.w with
              | true =>
                have hlg : R = ⟨e.n, up32 x.r, 0⟩ := by
                  have hf : es.find? (fun y => y.a == (p : Int) && y.w) = some e := by
                    rw [Hes.out, List.find?_append, Hno.out]
                    simp [ha1, ha2]
                  rw [Hlg3.out, hf]
                have Hlg := hide hlg
                clear hlg
                go_wp2_with fail
                exact bodyPost_ret (v := .tuple #[.agg #[.int .i64 e.n, .int .u32 (up32 x.r), .int .u32 0], .int .i64 0]) (by simp [results, Tryz.results24, go_sem, u0, u1, u2, hyr, up32]) rfl (by rw [Hlg.out]; exact ⟨rfl, (by repeat' (first | with_reducible exact Below.refl _ _ | with_reducible assumption | with_reducible refine Below.alloc ?_ ?_ _ | with_reducible refine Below.setCell ?_ ?_ _ | with_reducible refine Below.drew ?_ | with_reducible refine below_drewN ?_ _ | with_reducible refine Below.trans ?_ (Below.mono (by with_reducible assumption) ?_) | omega | (simp <;> omega)))⟩)
              | false =>
                have hst : (es.take (k + 1)).find? (fun y => y.a == (p : Int) && y.w) = none := by
                  rw [Htk.out, List.find?_append, Hno.out]
                  simp [ha2]
                have Hst := hide hst
                clear hst
                go_wp2_with fail
                exact ⟨⟨k + 1, by go_num, by omega, Hst.out, (by repeat' (first | with_reducible exact Below.refl _ _ | with_reducible assumption | with_reducible refine Below.alloc ?_ ?_ _ | with_reducible refine Below.setCell ?_ ?_ _ | with_reducible refine Below.drew ?_ | with_reducible refine below_drewN ?_ _ | with_reducible refine Below.trans ?_ (Below.mono (by with_reducible assumption) ?_) | omega | (simp <;> omega)))⟩, by simp [intOf]; omega⟩
            | false =>
              have hst : (es.take (k + 1)).find? (fun y => y.a == (p : Int) && y.w) = none := by
                rw [Htk.out, List.find?_append, Hno.out]
                simp [ha1]
              have Hst := hide hst
              clear hst
              go_wp2_with fail
              exact ⟨⟨k + 1, by go_num, by omega, Hst.out, (by repeat' (first | with_reducible exact Below.refl _ _ | with_reducible assumption | with_reducible refine Below.alloc ?_ ?_ _ | with_reducible refine Below.setCell ?_ ?_ _ | with_reducible refine Below.drew ?_ | with_reducible refine below_drewN ?_ _ | with_reducible refine Below.trans ?_ (Below.mono (by with_reducible assumption) ?_) | omega | (simp <;> omega)))⟩, by simp [intOf]; omega⟩
          · obtain rfl : es.length = k := by omega
            have hlg : R = plainW x := by
              rw [List.take_length] at hno
              rw [Hlg3.out, hno]
            have Hlg := hide hlg
            clear hlg hno
            go_wp2_with fail
            exact bodyPost_ret (v := .tuple #[.agg #[.int .i64 x.v, .int .u32 x.r, .int .u32 0], .int .i64 0]) (by simp [results, Tryz.results24, go_sem, u0, u1, u2, hyr]) rfl (by rw [Hlg.out]; exact ⟨rfl, (by repeat' (first | with_reducible exact Below.refl _ _ | with_reducible assumption | with_reducible refine Below.alloc ?_ ?_ _ | with_reducible refine Below.setCell ?_ ?_ _ | with_reducible refine Below.drew ?_ | with_reducible refine below_drewN ?_ _ | with_reducible refine Below.trans ?_ (Below.mono (by with_reducible assumption) ?_) | omega | (simp <;> omega)))⟩)
      · have hqb : (st != 1) = true := by simpa using hq2
        have hqa : (sq != seq) = false := by simpa using hq1
        have hlg : R = plainW x := by rw [Hlg.out, if_neg (fun h => hq2 h.2)]
        have Hlg3 := hide hlg
        clear hlg Hlg hq2 hq1
        go_wp2_with (first
          | (go_at_call 53; refine (Hrd.out _ (HS.out.below (by repeat' (first | with_reducible exact Below.refl _ _ | with_reducible assumption | with_reducible refine Below.alloc ?_ ?_ _ | with_reducible refine Below.setCell ?_ ?_ _ | with_reducible refine Below.drew ?_ | with_reducible refine below_drewN ?_ _ | with_reducible refine Below.trans ?_ (Below.mono (by with_reducible assumption) ?_) | omega | (simp <;> omega)))) (HM3.out.grow (by repeat' (first | with_reducible exact Below.refl _ _ | with_reducible assumption | with_reducible refine Below.alloc ?_ ?_ _ | with_reducible refine Below.setCell ?_ ?_ _ | with_reducible refine Below.drew ?_ | with_reducible refine below_drewN ?_ _ | with_reducible refine Below.trans ?_ (Below.mono (by with_reducible assumption) ?_) | omega | (simp <;> omega))))).mono ?_; rw [HrL.out]; rintro e w5 ⟨A, cp, rfl, hA, hcp, hb5⟩; obtain ⟨hcc5, hff5⟩ := bcell hb5; have hs5 := hb5.size; (try simp at hs5); have hz5 : w.heap.size < w5.heap.size := (by omega); have hy5 : w.heap.size + 1 < w5.heap.size := (by omega); have hx5' : w3.heap.size + 1 < w5.heap.size := (by omega)))
        have t0 : w5.cell? ⟨w.heap.size + 1, 0, none⟩ = some (.int .i64 0) := by go_simp
        have t1 : w5.cell? ⟨w.heap.size + 1, 1, none⟩ = some (.int .u32 0) := by go_simp
        have t2 : w5.cell? ⟨w.heap.size + 1, 2, none⟩ = some (.int .u32 0) := by go_simp
        exact bodyPost_ret (v := .tuple #[.agg #[.int .i64 x.v, .int .u32 x.r, .int .u32 0], .int .i64 0]) (by simp [results, Tryz.results24, go_sem, t0, t1, t2, hy5]) rfl (by rw [Hlg3.out]; exact ⟨rfl, (by repeat' (first | with_reducible exact Below.refl _ _ | with_reducible assumption | with_reducible refine Below.alloc ?_ ?_ _ | with_reducible refine Below.setCell ?_ ?_ _ | with_reducible refine Below.drew ?_ | with_reducible refine below_drewN ?_ _ | with_reducible refine Below.trans ?_ (Below.mono (by with_reducible assumption) ?_) | omega | (simp <;> omega)))⟩)
    · have hqa : (sq != seq) = true := by simpa using hq1
      have hlg : R = plainW x := by rw [Hlg.out, if_neg (fun h => hq1 h.1)]
      have Hlg3 := hide hlg
      clear hlg Hlg hq1
      go_wp2_with (first
        | (go_at_call 53; refine (Hrd.out _ (HS.out.below (by repeat' (first | with_reducible exact Below.refl _ _ | with_reducible assumption | with_reducible refine Below.alloc ?_ ?_ _ | with_reducible refine Below.setCell ?_ ?_ _ | with_reducible refine Below.drew ?_ | with_reducible refine below_drewN ?_ _ | with_reducible refine Below.trans ?_ (Below.mono (by with_reducible assumption) ?_) | omega | (simp <;> omega)))) (HM3.out.grow (by repeat' (first | with_reducible exact Below.refl _ _ | with_reducible assumption | with_reducible refine Below.alloc ?_ ?_ _ | with_reducible refine Below.setCell ?_ ?_ _ | with_reducible refine Below.drew ?_ | with_reducible refine below_drewN ?_ _ | with_reducible refine Below.trans ?_ (Below.mono (by with_reducible assumption) ?_) | omega | (simp <;> omega))))).mono ?_; rw [HrL.out]; rintro e w5 ⟨A, cp, rfl, hA, hcp, hb5⟩; obtain ⟨hcc5, hff5⟩ := bcell hb5; have hs5 := hb5.size; (try simp at hs5); have hz5 : w.heap.size < w5.heap.size := (by omega); have hy5 : w.heap.size + 1 < w5.heap.size := (by omega); have hx5' : w3.heap.size + 1 < w5.heap.size := (by omega)))
      have t0 : w5.cell? ⟨w.heap.size + 1, 0, none⟩ = some (.int .i64 0) := by go_simp
      have t1 : w5.cell? ⟨w.heap.size + 1, 1, none⟩ = some (.int .u32 0) := by go_simp
      have t2 : w5.cell? ⟨w.heap.size + 1, 2, none⟩ = some (.int .u32 0) := by go_simp
      exact bodyPost_ret (v := .tuple #[.agg #[.int .i64 x.v, .int .u32 x.r, .int .u32 0], .int .i64 0]) (by simp [results, Tryz.results24, go_sem, t0, t1, t2, hy5]) rfl (by rw [Hlg3.out]; exact ⟨rfl, (by repeat' (first | with_reducible exact Below.refl _ _ | with_reducible assumption | with_reducible refine Below.alloc ?_ ?_ _ | with_reducible refine Below.setCell ?_ ?_ _ | with_reducible refine Below.drew ?_ | with_reducible refine below_drewN ?_ _ | with_reducible refine Below.trans ?_ (Below.mono (by with_reducible assumption) ?_) | omega | (simp <;> omega)))⟩)

end Go.Proofs.YtbomhhkknopdpaaGreatDoor
