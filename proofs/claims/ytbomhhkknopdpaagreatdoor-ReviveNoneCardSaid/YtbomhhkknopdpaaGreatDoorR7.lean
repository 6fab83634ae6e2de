/- Package detect: Ats, Asked. -/
import Derived.Test.YtbomhhkknopdpaaGreatDoorR5
namespace Go.Proofs.YtbomhhkknopdpaaGreatDoor
set_option linter.unusedSimpArgs false
set_option linter.unusedVariables false
open Go.RowKit
set_option maxRecDepth 100000 in
theorem ats_ok (T C B t : Int) (r : Nat) (w : World) (hv : Valid T C B) (hs : Sizes w) (h0 : 1 ≤ t) (h1 : t ≤ T) (hr : atL T C B 2 (t - 1) 0 = (r : Int)) :
    Calls Tryz.prog 72 #[(.agg #[.int .i64 T, .int .i64 C, .int .i64 B]), .int .i64 t] w fun e w' => ∃ g : Nat, e = .returned (.slice (some ⟨g, 0, none⟩) 3 3) ∧ w.heap.size ≤ g ∧ g < w'.heap.size ∧ w'.cell? ⟨g, 0, none⟩ = some (.int .i64 r) ∧ w'.cell? ⟨g, 1, none⟩ = some (.int .i64 ((r : Int) + 1)) ∧ w'.cell? ⟨g, 2, none⟩ = some (.int .i64 ((r : Int) + 2)) ∧ Below w.heap.size w w' := by
  have hp := hs.pos
  have hT := hv.1.2.1
  have hrn : (r : Int) < 4096 := by
    have h := atL_in T C B hv 2 (by decide) (t - 1) 0 (by omega) (by show t - 1 < T; omega) (by decide) (by decide)
    have := hv.2
    omega
  have HR := hide hr
  clear hr
  go_enter Tryz.func72, Tryz.ntmps72
  go_wp2_with (first
    | (go_at_call 20; refine (record_ok T C B t _ hv (hs.below (by repeat' (first | with_reducible exact Below.refl _ _ | with_reducible assumption | with_reducible refine Below.alloc ?_ ?_ _ | with_reducible refine Below.setCell ?_ ?_ _ | with_reducible refine Below.drew ?_ | with_reducible refine below_drewN ?_ _ | with_reducible refine Below.trans ?_ (Below.mono (by with_reducible assumption) ?_) | omega | (simp <;> omega)))) (by omega) (by omega)).mono ?_; rintro e w1 ⟨rfl, hb1⟩; rw [HR.out]; obtain ⟨hcc1, hff1⟩ := bcell hb1; have hs1 := hb1.size; (try simp at hs1); have hz1 : w.heap.size < w1.heap.size := (by omega)))
  go_ret
  exact ⟨w1.heap.size, rfl, by omega, by simp, by go_simp, by go_simp, by go_simp, (by repeat' (first | with_reducible exact Below.refl _ _ | with_reducible assumption | with_reducible refine Below.alloc ?_ ?_ _ | with_reducible refine Below.setCell ?_ ?_ _ | with_reducible refine Below.drew ?_ | with_reducible refine below_drewN ?_ _ | with_reducible refine Below.trans ?_ (Below.mono (by with_reducible assumption) ?_) | omega | (simp <;> omega)))⟩
theorem rec_may (T C B t : Int) (j : Nat) (hv : Valid T C B) (h0 : 1 ≤ t) (h1 : t ≤ T) (hj : j < 3) : mayL T C B (atL T C B 2 (t - 1) 0 + j) = true := by
  have e3 : fromL T C B 3 = fromL T C B 2 + 8 * T := rfl
  have e2 : fromL T C B 2 = fromL T C B 1 + 8 * T := rfl
  have e1 : fromL T C B 1 = 8 := rfl
  unfold mayL atL
  rw [if_pos ⟨by omega, by show t - 1 < T; omega⟩, show sizeL 2 = 8 from rfl]
  simp only [Bool.or_eq_true, Bool.and_eq_true, decide_eq_true_eq]
  right
  omega
/-- A thread's record, told. -/
def askedL (T C B : Int) (ws : List W3) (t : Int) : Int × Int × Int × Int :=
  let r := (atL T C B 2 (t - 1) 0).toNat
  if (logicalL T C B ws r).v < 0 ∨ (logicalL T C B ws (r + 2)).v < 0 ∨ 255 < (logicalL T C B ws (r + 2)).v then (0, 0, 0, 5) else ((logicalL T C B ws r).v, (logicalL T C B ws (r + 2)).v, (logicalL T C B ws (r + 1)).v, 0)
def AskedPost (a : Int × Int × Int × Int) (w : World) (e : Ending) (w' : World) : Prop := e = .returned (.tuple #[.int .i64 a.1, .agg #[.int .i64 a.2.1, .int .i64 a.2.2.1], .int .i64 a.2.2.2]) ∧ Below w.heap.size w w'
def r3 (y0 y1 y2 : Int) (k : Nat) : List Value := [.int .i64 (if 0 < k then y0 else 0), .int .i64 (if 1 < k then y1 else 0), .int .i64 (if 2 < k then y2 else 0)]
def p3 (y0 y1 y2 : Int) (k : Nat) : Int := if k = 0 then y0 else if k = 1 then y1 else y2
theorem r3_set (y0 y1 y2 : Int) {k : Nat} (h : k < 3) : (r3 y0 y1 y2 k).set k (.int .i64 (p3 y0 y1 y2 k)) = r3 y0 y1 y2 (k + 1) := by
  match k, h with
  | 0, _ => rfl
  | 1, _ => rfl
  | 2, _ => rfl
theorem r3_at (y0 y1 y2 : Int) {k : Nat} (h : k < 3) : (r3 y0 y1 y2 k)[k]? = some (.int .i64 0) := by
  match k, h with
  | 0, _ => rfl
  | 1, _ => rfl
  | 2, _ => rfl
set_option maxHeartbeats 8000000 in
set_option maxRecDepth 100000 in
theorem asked_ok (T C B t : Int) (b n cap : Nat) (ws : List W3) (w : World) (hv : Valid T C B) (hs : Sizes w) (hM : Mem b ws w) (hl : ws.length = n) (hnm : n ≤ 1000000) (hcap : n ≤ cap) (hok : ∀ x ∈ ws, x.ok) (hn : fromL T C B 7 = (n : Int)) (h0 : 1 ≤ t) (h1 : t ≤ T) :
    Calls Tryz.prog 46 #[(.agg #[.int .i64 T, .int .i64 C, .int .i64 B]), .slice (some ⟨b, 0, none⟩) n cap, .int .i64 t] w (AskedPost (askedL T C B ws t) w) := by
  have hpos := hs.pos
  have hb := hM.2.2
  have hin := atL_in T C B hv 2 (by decide) (t - 1) 0 (by omega) (by show t - 1 < T; omega) (by decide) (by decide)
  obtain ⟨r, hr⟩ : ∃ r : Nat, atL T C B 2 (t - 1) 0 = (r : Int) := ⟨(atL T C B 2 (t - 1) 0).toNat, by omega⟩
  have hlog : ∀ j : Nat, j < 3 → ∀ (W : World), Sizes W → Mem b ws W → r + j < n ∧ Calls Tryz.prog 24 #[(.agg #[.int .i64 T, .int .i64 C, .int .i64 B]), .slice (some ⟨b, 0, none⟩) n cap, .int .i64 ((r + j : Nat) : Int)] W (LogPost (logicalL T C B ws (r + j)) 0 W) := fun j hj W hs' hM' => by
    have hm := rec_may T C B t j hv h0 h1 hj
    rw [hr] at hm
    have hm2 : mayL T C B ((r + j : Nat) : Int) = true := by rw [show ((r + j : Nat) : Int) = (r : Int) + (j : Int) by omega]; exact hm
    have hi := may_in hv hm2
    have hlt : r + j < n := by omega
    exact ⟨hlt, logical_may T C B b n cap (r + j) _ _ _ ws W hv hs' hM' hl hnm hcap hok (by omega) hm2 (List.getElem?_eq_getElem (by omega)) rfl⟩
  have hask : askedL T C B ws t = if (logicalL T C B ws r).v < 0 ∨ (logicalL T C B ws (r + 2)).v < 0 ∨ 255 < (logicalL T C B ws (r + 2)).v then (0, 0, 0, 5) else ((logicalL T C B ws r).v, (logicalL T C B ws (r + 2)).v, (logicalL T C B ws (r + 1)).v, 0) := by
    unfold askedL
    rw [hr, Int.toNat_natCast]
  rw [hask]
  clear hask
  have l0 := hlog 0 (by decide)
  have l1 := hlog 1 (by decide)
  have l2 := hlog 2 (by decide)
  rw [Nat.add_zero] at l0
  have hr2 : r + 2 < n := (l2 w hs hM).1
  obtain ⟨x0, hx0⟩ : ∃ x, x = logicalL T C B ws r := ⟨_, rfl⟩
  obtain ⟨x1, hx1⟩ : ∃ x, x = logicalL T C B ws (r + 1) := ⟨_, rfl⟩
  obtain ⟨x2, hx2⟩ : ∃ x, x = logicalL T C B ws (r + 2) := ⟨_, rfl⟩
  rw [← hx0, ← hx1, ← hx2]
  rw [← hx0] at l0
  rw [← hx1] at l1
  rw [← hx2] at l2
  have Hlg : Hid (∀ k : Nat, k < 3 → ∀ (W : World), Sizes W → Mem b ws W → Calls Tryz.prog 24 #[(.agg #[.int .i64 T, .int .i64 C, .int .i64 B]), .slice (some ⟨b, 0, none⟩) n cap, .int .i64 ((r : Int) + (k : Int))] W fun e W' => ∃ u f : Int, e = .returned (.tuple #[.agg #[.int .i64 (p3 x0.v x1.v x2.v k), .int .u32 u, .int .u32 f], .int .i64 0]) ∧ Below W.heap.size W W') := hide (fun k hk W hs' hM' => by
    have hgo : ∀ (x : W3) (j : Nat), j = r + k → x.v = p3 x0.v x1.v x2.v k → Calls Tryz.prog 24 #[(.agg #[.int .i64 T, .int .i64 C, .int .i64 B]), .slice (some ⟨b, 0, none⟩) n cap, .int .i64 ((j : Nat) : Int)] W (LogPost x 0 W) → Calls Tryz.prog 24 #[(.agg #[.int .i64 T, .int .i64 C, .int .i64 B]), .slice (some ⟨b, 0, none⟩) n cap, .int .i64 ((r : Int) + (k : Int))] W fun e W' => ∃ u f : Int, e = .returned (.tuple #[.agg #[.int .i64 (p3 x0.v x1.v x2.v k), .int .u32 u, .int .u32 f], .int .i64 0]) ∧ Below W.heap.size W W' := fun x j hj hx hC => by
      subst hj
      rw [show (r : Int) + (k : Int) = ((r + k : Nat) : Int) by omega, ← hx]
      exact hC.mono fun e W' ⟨he, hb⟩ => ⟨x.r, x.f, he, hb⟩
    match k, hk with
    | 0, _ => exact hgo x0 r rfl rfl (l0 W hs' hM').2
    | 1, _ => exact hgo x1 (r + 1) rfl rfl (l1 W hs' hM').2
    | 2, _ => exact hgo x2 (r + 2) rfl rfl (l2 W hs' hM').2)
  have HN := hide hn
  have HR := hide hr
  have HM := hide hM
  have hnn : ¬ ((n : Int) < (n : Int)) := by omega
  have hncap : (n : Int) ≤ (cap : Int) := by omega
  have hn00 : (0 : Int) ≤ (n : Int) := by omega
  have heq : ∀ (G : Nat) (W : World), (binOp .eql 78 (.slice (some ⟨G, 0, none⟩) 3 3) (.slice none 0 0)).run Tryz.prog W = .ok (.bool false) W := fun G W => by kernel_rfl
  obtain ⟨y0, hy0⟩ : ∃ y, y = x0.v := ⟨_, rfl⟩
  obtain ⟨y1, hy1⟩ : ∃ y, y = x1.v := ⟨_, rfl⟩
  obtain ⟨y2, hy2⟩ : ∃ y, y = x2.v := ⟨_, rfl⟩
  simp only [← hy0, ← hy1, ← hy2] at Hlg ⊢
  obtain ⟨Q, hQ⟩ : ∃ Q : Ending → World → Prop, Q = AskedPost (if y0 < 0 ∨ y2 < 0 ∨ 255 < y2 then (0, 0, 0, 5) else (y0, y2, y1, 0)) w := ⟨_, rfl⟩
  rw [← hQ]
  have HQ := hide hQ
  clear hM hl hok hn hr hlog l0 l1 l2 hx0 hx1 hx2 hin hy0 hy1 hy2 hQ
  go_enter Tryz.func46, Tryz.ntmps46
  go_wp2_with (first
    | (go_at_call 72; refine (ats_ok T C B t r _ hv (hs.below (by repeat' (first | with_reducible exact Below.refl _ _ | with_reducible assumption | with_reducible refine Below.alloc ?_ ?_ _ | with_reducible refine Below.setCell ?_ ?_ _ | with_reducible refine Below.drew ?_ | with_reducible refine below_drewN ?_ _ | with_reducible refine Below.trans ?_ (Below.mono (by with_reducible assumption) ?_) | omega | (simp <;> omega)))) h0 h1 HR.out).mono ?_; rintro e w1 ⟨G, rfl, hG1, hG2, g0, g1, g2, hb1⟩; obtain ⟨hcc1, hff1⟩ := bcell hb1; have hs1 := hb1.size; (try simp at hs1); have hz1 : w.heap.size < w1.heap.size := (by omega); have hy1 : w.heap.size + 1 < w1.heap.size := (by omega); have hq1 : 0 < w1.heap.size := (by omega))
    | (go_at_call 12; refine (check_ok T C B _ hv (hs.below (by repeat' (first | with_reducible exact Below.refl _ _ | with_reducible assumption | with_reducible refine Below.alloc ?_ ?_ _ | with_reducible refine Below.setCell ?_ ?_ _ | with_reducible refine Below.drew ?_ | with_reducible refine below_drewN ?_ _ | with_reducible refine Below.trans ?_ (Below.mono (by with_reducible assumption) ?_) | omega | (simp <;> omega))))).mono ?_; rintro e w2 ⟨rfl, hb2⟩; obtain ⟨hcc2, hff2⟩ := bcell hb2; have hs2 := hb2.size; (try simp at hs2); have hz2 : w.heap.size < w2.heap.size := (by omega); have hy2 : w.heap.size + 1 < w2.heap.size := (by omega); have hq2 : 0 < w2.heap.size := (by omega))
    | (go_at_call 21; refine (size_ok T C B _ hv (hs.below (by repeat' (first | with_reducible exact Below.refl _ _ | with_reducible assumption | with_reducible refine Below.alloc ?_ ?_ _ | with_reducible refine Below.setCell ?_ ?_ _ | with_reducible refine Below.drew ?_ | with_reducible refine below_drewN ?_ _ | with_reducible refine Below.trans ?_ (Below.mono (by with_reducible assumption) ?_) | omega | (simp <;> omega))))).mono ?_; rintro e w3 ⟨rfl, hb3⟩; rw [HN.out]; obtain ⟨hcc3, hff3⟩ := bcell hb3; have hs3 := hb3.size; (try simp at hs3); have hz3 : w.heap.size < w3.heap.size := (by omega); have hy3 : w.heap.size + 1 < w3.heap.size := (by omega); have hq3 : 0 < w3.heap.size := (by omega)))
  have G0 : w3.cell? ⟨G, 0, none⟩ = some (.int .i64 r) := by rw [hcc3 _ _ (by omega), hcc2 _ _ (by omega)]; exact g0
  have G1 : w3.cell? ⟨G, 1, none⟩ = some (.int .i64 ((r : Int) + 1)) := by rw [hcc3 _ _ (by omega), hcc2 _ _ (by omega)]; exact g1
  have G2 : w3.cell? ⟨G, 2, none⟩ = some (.int .i64 ((r : Int) + 2)) := by rw [hcc3 _ _ (by omega), hcc2 _ _ (by omega)]; exact g2
  have hG3 : G < w3.heap.size := by omega
  have e0 : w3.cell? ⟨w.heap.size, 0, none⟩ = some (.int .i64 T) := by go_simp
  have e1 : w3.cell? ⟨w.heap.size, 1, none⟩ = some (.int .i64 C) := by go_simp
  have e2 : w3.cell? ⟨w.heap.size, 2, none⟩ = some (.int .i64 B) := by go_simp
  have r0 : w3.cell? ⟨w.heap.size + 1, 0, none⟩ = some (.int .i64 0) := by go_simp
  have r1 : w3.cell? ⟨w.heap.size + 1, 1, none⟩ = some (.int .i64 0) := by go_simp
  have p0 : ∀ o, w3.frozen? ⟨w.heap.size + 1, o, none⟩ = false := fun o => by
    rw [hff3 _ _ (by omega), hff2 _ _ (by omega), hff1 _ _ (by simp)]
    exact World.frozen?_alloc_at _ _ _ _ (by simp)
  have hB3 : Below w.heap.size w w3 := (by repeat' (first | with_reducible exact Below.refl _ _ | with_reducible assumption | with_reducible refine Below.alloc ?_ ?_ _ | with_reducible refine Below.setCell ?_ ?_ _ | with_reducible refine Below.drew ?_ | with_reducible refine below_drewN ?_ _ | with_reducible refine Below.trans ?_ (Below.mono (by with_reducible assumption) ?_) | omega | (simp <;> omega)))
  have HS3 := hide (hs.below hB3)
  have HM3 := hide (HM.out.grow hB3)
  clear hcc1 hcc2 hcc3 hff1 hff2 hff3 hb1 hb2 hb3 g0 g1 g2
  go_loopw [36] (fun i wr => ∃ k : Nat, i = .int .i64 k ∧ k ≤ 3 ∧ BoxC w3.heap.size (r3 y0 y1 y2 k) wr ∧ Below w3.heap.size w3 wr) (fun i _ => 3 - (intOf i).toNat)
  case atStart => exact ⟨0, rfl, by omega, BoxC.made _ #[.int .i64 0, .int .i64 0, .int .i64 0] _, (by repeat' (first | with_reducible exact Below.refl _ _ | with_reducible assumption | with_reducible refine Below.alloc ?_ ?_ _ | with_reducible refine Below.setCell ?_ ?_ _ | with_reducible refine Below.drew ?_ | with_reducible refine below_drewN ?_ _ | with_reducible refine Below.trans ?_ (Below.mono (by with_reducible assumption) ?_) | omega | (simp <;> omega)))⟩
  case round =>
    obtain ⟨k, rfl, hk, hX, hB⟩ := hrel
    have hsz := hB.size
    have hbc : ∀ x o, x < w3.heap.size → wr.cell? ⟨x, o, none⟩ = w3.cell? ⟨x, o, none⟩ := fun x o hx => hB.cell (p := ⟨x, o, none⟩) hx
    have f0 := (hbc _ 0 hz3).trans e0
    have f1 := (hbc _ 1 hz3).trans e1
    have f2 := (hbc _ 2 hz3).trans e2
    have q0 := (hbc _ 0 hy3).trans r0
    have q1 := (hbc _ 1 hy3).trans r1
    have qf : ∀ o, wr.frozen? ⟨w.heap.size + 1, o, none⟩ = false := fun o => (hB.frozen (p := ⟨w.heap.size + 1, o, none⟩) hy3).trans (p0 o)
    have hzr : w.heap.size < wr.heap.size := by omega
    have hyr : w.heap.size + 1 < wr.heap.size := by omega
    have hzr1 : w.heap.size < wr.heap.size + 1 := by omega
    have hnr : ¬ wr.heap.size = w.heap.size := by omega
    have hx3r := hX.2.2
    have hmr : ¬ wr.heap.size = w3.heap.size := by omega
    have hBr : Below w.heap.size w wr := hB3.trans (hB.mono (by omega))
    have HSr := hide (HS3.out.below hB)
    have HMr := hide (HM3.out.grow hB)
    by_cases hlt : k < 3
    · have hat : wr.cell? ⟨G, k, none⟩ = some (.int .i64 ((r : Int) + (k : Int))) := by
        rw [hbc _ _ hG3]
        match k, hlt with
        | 0, _ => rw [G0]; simp
        | 1, _ => exact G1
        | 2, _ => exact G2
      have hst := r3_set y0 y1 y2 hlt
      have Hst := hide hst
      have h3 := r3_at y0 y1 y2 hlt
      have d0 : wr.cell? ⟨w3.heap.size, k, none⟩ = some (.int .i64 0) := hX.at h3
      have df := hX.2.1
      have hXl := hX.2.2
      have HX := hide hX
      obtain ⟨y, hy⟩ : ∃ y, y = p3 y0 y1 y2 k := ⟨_, rfl⟩
      have hlk := Hlg.out k hlt
      rw [← hy] at hlk
      have Hlk := hide hlk
      have Hy := hide hy
      have hki : (0 : Int) ≤ (k : Int) := by omega
      have hkj : (k : Int) < 3 := by omega
      clear hbc hst h3 hX hlk hy
      go_wp2_with fail
      go_region_held3 (fun w' => w'.cell? ⟨w.heap.size, 0, none⟩ = some (.int .i64 T) ∧ w'.cell? ⟨w.heap.size, 1, none⟩ = some (.int .i64 C) ∧ w'.cell? ⟨w.heap.size, 2, none⟩ = some (.int .i64 B))
        (first | exact ⟨f0, f1, f2⟩ | go_keep)
        (first
          | (go_at_call 21; refine (size_ok T C B _ hv (HSr.out.below (by repeat' (first | with_reducible exact Below.refl _ _ | with_reducible assumption | with_reducible refine Below.alloc ?_ ?_ _ | with_reducible refine Below.setCell ?_ ?_ _ | with_reducible refine Below.drew ?_ | with_reducible refine below_drewN ?_ _ | with_reducible refine Below.trans ?_ (Below.mono (by with_reducible assumption) ?_) | omega | (simp <;> omega))))).mono ?_; rintro e' w5 ⟨rfl, hb5'⟩; rw [HN.out]; have hb5 : Below _ _ w5 := (by first | with_reducible exact noDrew hb5' | exact hb5'); clear hb5'; obtain ⟨hcc5, hff5⟩ := bcell hb5; have hs5 := hb5.size; (try simp at hs5); have hz5 : w.heap.size < w5.heap.size := (by omega); have hx5 : w3.heap.size < w5.heap.size := (by omega); have hz51 : w.heap.size < w5.heap.size + 1 := (by omega); have hx51 : w3.heap.size < w5.heap.size + 1 := (by omega); have hn5 : ¬ w5.heap.size = w.heap.size := (by omega); have hm5 : ¬ w5.heap.size = w3.heap.size := (by omega); (try have hl5 : wr.heap.size < w5.heap.size := (by omega)))
          | (go_at_call 24; refine (Hlk.out _ (HSr.out.below (by repeat' (first | with_reducible exact Below.refl _ _ | with_reducible assumption | with_reducible refine Below.alloc ?_ ?_ _ | with_reducible refine Below.setCell ?_ ?_ _ | with_reducible refine Below.drew ?_ | with_reducible refine below_drewN ?_ _ | with_reducible refine Below.trans ?_ (Below.mono (by with_reducible assumption) ?_) | omega | (simp <;> omega)))) (HMr.out.grow (by repeat' (first | with_reducible exact Below.refl _ _ | with_reducible assumption | with_reducible refine Below.alloc ?_ ?_ _ | with_reducible refine Below.setCell ?_ ?_ _ | with_reducible refine Below.drew ?_ | with_reducible refine below_drewN ?_ _ | with_reducible refine Below.trans ?_ (Below.mono (by with_reducible assumption) ?_) | omega | (simp <;> omega))))).mono ?_; rintro e' w6 ⟨u6, f6, rfl, hb6'⟩; have hb6 : Below _ _ w6 := (by first | with_reducible exact noDrew hb6' | exact hb6'); clear hb6'; obtain ⟨hcc6, hff6⟩ := bcell hb6; have hs6 := hb6.size; (try simp at hs6); have hz6 : w.heap.size < w6.heap.size := (by omega); have hx6 : w3.heap.size < w6.heap.size := (by omega); have hn6 : ¬ w6.heap.size = w.heap.size := (by omega); have hm6 : ¬ w6.heap.size = w3.heap.size := (by omega); (try have hl6 : wr.heap.size < w6.heap.size := (by omega)); (try have hl56 : w5.heap.size < w6.heap.size := (by omega))))
      all_goals go_wp2_with fail
      all_goals have hX6 : BoxC w3.heap.size (r3 y0 y1 y2 k) w6 := HX.out.below (by repeat' (first | with_reducible exact Below.refl _ _ | with_reducible assumption | with_reducible refine Below.alloc ?_ ?_ _ | with_reducible refine Below.setCell ?_ ?_ _ | with_reducible refine Below.drew ?_ | with_reducible refine below_drewN ?_ _ | with_reducible refine Below.trans ?_ (Below.mono (by with_reducible assumption) ?_) | omega | (simp <;> omega)))
      all_goals refine ⟨⟨k + 1, by go_num, by omega, ?_, (by repeat' (first | with_reducible exact Below.refl _ _ | with_reducible assumption | with_reducible refine Below.alloc ?_ ?_ _ | with_reducible refine Below.setCell ?_ ?_ _ | with_reducible refine Below.drew ?_ | with_reducible refine below_drewN ?_ _ | with_reducible refine Below.trans ?_ (Below.mono (by with_reducible assumption) ?_) | omega | (simp <;> omega)))⟩, by simp [intOf]; omega⟩
      all_goals rw [← Hst.out, ← Hy.out]
      all_goals have hkl : k < (r3 y0 y1 y2 k).length := hlt
      · exact (hX6.store hkl _).below (by repeat' (first | with_reducible exact Below.refl _ _ | with_reducible assumption | with_reducible refine Below.alloc ?_ ?_ _ | with_reducible refine Below.setCell ?_ ?_ _ | with_reducible refine Below.drew ?_ | with_reducible refine below_drewN ?_ _ | with_reducible refine Below.trans ?_ (Below.mono (by with_reducible assumption) ?_) | omega | (simp <;> omega)))
      · exact (((hX6.far hm5 _).far hm5 _).far hm5 _).store hkl _
      · exact (((hX6.far hmr _).far hmr _).far hmr _).store hkl _
    · obtain rfl : k = 3 := by omega
      have d0 : wr.cell? ⟨w3.heap.size, 0, none⟩ = some (.int .i64 y0) := hX.at rfl
      have d1 : wr.cell? ⟨w3.heap.size, 1, none⟩ = some (.int .i64 y1) := hX.at rfl
      have d2 : wr.cell? ⟨w3.heap.size, 2, none⟩ = some (.int .i64 y2) := hX.at rfl
      have df := hX.2.1
      have hXl := hX.2.2
      have hne : ¬ w.heap.size + 1 = w3.heap.size := by omega
      clear hbc hX
      by_cases c0 : y0 < 0
      · go_wp2_with fail
        exact bodyPost_ret (v := .tuple #[.int .i64 0, .agg #[.int .i64 0, .int .i64 0], .int .i64 5]) (by simp [results, Tryz.results46, go_sem, q0, q1, hyr]) rfl (by rw [HQ.out, if_pos (Or.inl c0)]; exact ⟨rfl, (by repeat' (first | with_reducible exact Below.refl _ _ | with_reducible assumption | with_reducible refine Below.alloc ?_ ?_ _ | with_reducible refine Below.setCell ?_ ?_ _ | with_reducible refine Below.drew ?_ | with_reducible refine below_drewN ?_ _ | with_reducible refine Below.trans ?_ (Below.mono (by with_reducible assumption) ?_) | omega | (simp <;> omega)))⟩)
      by_cases c2 : y2 < 0
      · go_wp2_with fail
        exact bodyPost_ret (v := .tuple #[.int .i64 0, .agg #[.int .i64 0, .int .i64 0], .int .i64 5]) (by simp [results, Tryz.results46, go_sem, q0, q1, hyr]) rfl (by rw [HQ.out, if_pos (Or.inr (Or.inl c2))]; exact ⟨rfl, (by repeat' (first | with_reducible exact Below.refl _ _ | with_reducible assumption | with_reducible refine Below.alloc ?_ ?_ _ | with_reducible refine Below.setCell ?_ ?_ _ | with_reducible refine Below.drew ?_ | with_reducible refine below_drewN ?_ _ | with_reducible refine Below.trans ?_ (Below.mono (by with_reducible assumption) ?_) | omega | (simp <;> omega)))⟩)
      by_cases c3 : 255 < y2
      · go_wp2_with fail
        exact bodyPost_ret (v := .tuple #[.int .i64 0, .agg #[.int .i64 0, .int .i64 0], .int .i64 5]) (by simp [results, Tryz.results46, go_sem, q0, q1, hyr]) rfl (by rw [HQ.out, if_pos (Or.inr (Or.inr c3))]; exact ⟨rfl, (by repeat' (first | with_reducible exact Below.refl _ _ | with_reducible assumption | with_reducible refine Below.alloc ?_ ?_ _ | with_reducible refine Below.setCell ?_ ?_ _ | with_reducible refine Below.drew ?_ | with_reducible refine below_drewN ?_ _ | with_reducible refine Below.trans ?_ (Below.mono (by with_reducible assumption) ?_) | omega | (simp <;> omega)))⟩)
      go_wp2_with fail
      go_region_held3 (fun w' => w'.cell? ⟨w3.heap.size, 0, none⟩ = some (.int .i64 y0) ∧ w'.cell? ⟨w3.heap.size, 1, none⟩ = some (.int .i64 y1) ∧ w'.cell? ⟨w3.heap.size, 2, none⟩ = some (.int .i64 y2))
        (first | exact ⟨d0, d1, d2⟩ | go_keep)
        (fail)
      all_goals go_wp2_with fail
      all_goals exact bodyPost_ret (v := .tuple #[.int .i64 y0, .agg #[.int .i64 y2, .int .i64 y1], .int .i64 0]) (by simp [results, Tryz.results46, go_sem, q0, q1, hyr]) rfl (by rw [HQ.out, if_neg (by omega)]; exact ⟨rfl, (by repeat' (first | with_reducible exact Below.refl _ _ | with_reducible assumption | with_reducible refine Below.alloc ?_ ?_ _ | with_reducible refine Below.setCell ?_ ?_ _ | with_reducible refine Below.drew ?_ | with_reducible refine below_drewN ?_ _ | with_reducible refine Below.trans ?_ (Below.mono (by with_reducible assumption) ?_) | omega | (simp <;> omega)))⟩)
end Go.Proofs.YtbomhhkknopdpaaGreatDoor
