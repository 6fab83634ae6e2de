/- Package desc: Read, where the head is well-formed. -/
import Derived.Test.YtbomhhkknopdpaaGreatDoorD40
namespace Go.Proofs.YtbomhhkknopdpaaGreatDoor
set_option linter.unusedSimpArgs false
set_option linter.unusedVariables false
open Go.RowKit
theorem rd_set {w : World} {B0 size n C o : Nat} {A : Option Addr} {xs : List Value} (h : Rd w B0 size A n xs) (hne : ∀ b off, A = some ⟨b, off, none⟩ → C ≠ b) (x : Value) : Rd (w.setCell ⟨C, o, none⟩ x) B0 size A n xs := by
  refine ⟨h.1, fun hn => ?_⟩
  obtain ⟨b, off, e, hB, hc⟩ := h.2 hn
  refine ⟨b, off, e, hB, fun j u hu => ?_⟩
  rw [World.cell?_setCell_other _ _ _ _ (by intro e3; injection e3 with e3 _; exact hne b off e e3)]
  exact hc j u hu
theorem rd_set4 {w : World} {size n C : Nat} {A : Option Addr} {xs : List Value} (h : Rd w w.heap.size size A n xs) (hne : ∀ b off, A = some ⟨b, off, none⟩ → C ≠ b) (x0 x1 x2 x3 : Value) :
    Rd ((((w.setCell ⟨C, 0, none⟩ x0).setCell ⟨C, 1, none⟩ x1).setCell ⟨C, 2, none⟩ x2).setCell ⟨C, 3, none⟩ x3) ((((w.setCell ⟨C, 0, none⟩ x0).setCell ⟨C, 1, none⟩ x1).setCell ⟨C, 2, none⟩ x2).setCell ⟨C, 3, none⟩ x3).heap.size size A n xs := by
  have e : ((((w.setCell ⟨C, 0, none⟩ x0).setCell ⟨C, 1, none⟩ x1).setCell ⟨C, 2, none⟩ x2).setCell ⟨C, 3, none⟩ x3).heap.size = w.heap.size := by simp
  rw [e]
  exact rd_set (rd_set (rd_set (rd_set h hne x0) hne x1) hne x2) hne x3
theorem info_entry : (Tryz.prog.info? 64).map (fun i => (i.zero, i.size, i.bytes)) = some (some (.agg #[.int .i64 0, .int .i64 0, .int .u32 0, .int .u32 0, .int .i64 0, .bool false]), 6, 40) := by kernel_rfl
theorem BoxC.under {B B0 : Nat} {cs : List Value} {w w' : World} (h : BoxC B cs w) (hb : Below B0 w w') (hlt : B < B0) : BoxC B cs w' := by
  obtain ⟨h1, h2, h3⟩ := h
  exact ⟨fun j u hu => (hb.cell (p := ⟨B, j, none⟩) hlt).trans (h1 j u hu), fun o => (hb.frozen (p := ⟨B, o, none⟩) hlt).trans (h2 o), Nat.lt_of_lt_of_le h3 hb.size⟩
theorem own_cap {w : World} {base size n cap : Nat} {e : TypeId} {A : Option Addr} {xs : List Value} (h : w.ownsRow base e size (.slice A n cap) n xs) : cap ≤ maxLen := by
  obtain ⟨_, h2⟩ := h
  rcases h2 with ⟨h, -⟩ | ⟨g, cap', cur, h, _, _, _, hcm, _⟩
  · injection h with _ _ h
    subst h
    exact Nat.zero_le _
  · injection h with _ _ h
    subst h
    exact hcm
theorem own_rd {w : World} {base size n cap : Nat} {e : TypeId} {A : Option Addr} {xs : List Value} (h : w.ownsRow base e size (.slice A n cap) n xs) : Rd w w.heap.size size A n xs := by
  obtain ⟨A', cap', e1, hr⟩ := Rd.of_own h
  injection e1 with e1
  subst e1
  exact hr
theorem array_at (a : Addr) (cp : Nat) (w : World) : (Instr.arrayAt 112 (.slice (some a) 3 cp)).run Tryz.prog w = .ok (.pointer (some a)) w := by kernel_rfl
theorem rd_ec {w : World} {b : Nat} {e : En} (h0 : w.cell? ⟨b, 0, none⟩ = some (.int .i64 e.a)) (h1 : w.cell? ⟨b, 1, none⟩ = some (.int .i64 e.o.v)) (h2 : w.cell? ⟨b, 2, none⟩ = some (.int .u32 e.o.r)) (h3 : w.cell? ⟨b, 3, none⟩ = some (.int .u32 e.o.f)) (h4 : w.cell? ⟨b, 4, none⟩ = some (.int .i64 e.n)) (h5 : w.cell? ⟨b, 5, none⟩ = some (.bool e.w)) :
    Rd w w.heap.size 6 (some ⟨b, 0, none⟩) 1 (ec e) := ⟨rfl, fun _ => ⟨b, 0, rfl, cell_lt h0, fun j u hu => by
  rw [Nat.zero_add]
  match j, hu with
  | 0, hu => injection hu with hu; subst hu; exact h0
  | 1, hu => injection hu with hu; subst hu; exact h1
  | 2, hu => injection hu with hu; subst hu; exact h2
  | 3, hu => injection hu with hu; subst hu; exact h3
  | 4, hu => injection hu with hu; subst hu; exact h4
  | 5, hu => injection hu with hu; subst hu; exact h5
  | j + 6, hu => simp [ec] at hu⟩⟩
theorem ec_ones (e : En) : ∀ u ∈ ec e, u.oneCell' = true := by
  intro u hu
  simp [ec] at hu
  rcases hu with rfl | rfl | rfl | rfl | rfl | rfl <;> rfl
theorem entsL_len : ∀ {ws : List W3} {p k : Nat} {es : List En}, entsL ws p k = some es → es.length = k
  | _, _, 0, es, h => by
    simp only [entsL, Option.some.injEq] at h
    subst h
    rfl
  | ws, p, k + 1, es, h => by
    unfold entsL at h
    cases h1 : entsL ws p k with
    | none => rw [h1] at h; cases h
    | some es' =>
      rw [h1] at h
      simp only [] at h
      split at h
      · injection h with h
        subst h
        simp [entsL_len h1]
      · cases h
theorem entsL_none : ∀ {ws : List W3} {p k : Nat} (j : Nat), entsL ws p k = none → entsL ws p (k + j) = none
  | _, _, _, 0, h => h
  | ws, p, k, j + 1, h => by
    rw [← Nat.add_assoc]
    unfold entsL
    rw [entsL_none j h]
set_option maxHeartbeats 16000000 in
set_option maxRecDepth 100000 in
theorem read_good (T C B who N : Int) (b n cap p : Nat) (s c : W3) (ws : List W3) (w : World) (hv : Valid T C B) (hs : Sizes w) (h0 : -1000 ≤ who) (h1 : who ≤ 1000) (hM : Mem b ws w) (hl : ws.length = n) (hnm : n ≤ 1000000) (hcap : n ≤ cap) (hok : ∀ x ∈ ws, x.ok)
    (hn : fromL T C B 7 ≤ n) (hP : placeL T C B who = (p : Int)) (hN : placeN T C B who = N) (hN0 : (N == 0) = false) (hN1 : 0 < N) (hN2 : N ≤ 32) (hpn : (p : Int) + 2 + 3 * N ≤ n) (hsw : ws[p]? = some s) (hcw : ws[p + 1]? = some c) (hf : headOK s c N = true) :
    Calls Tryz.prog 53 #[(.agg #[.int .i64 T, .int .i64 C, .int .i64 B]), .slice (some ⟨b, 0, none⟩) n cap, .int .i64 who] w fun e w' => ReadPost who (match entsL ws p c.v.toNat with | none => none | some es => if checkD T C B who s.r s.v es = 0 then some (s.r, s.v, es) else none) w e w' := by
  have hp := hs.pos
  have hb := hM.2.2
  obtain ⟨Q, hQ⟩ : ∃ Q : Ending → World → Prop, Q = ReadPost who (match entsL ws p c.v.toNat with | none => none | some es => if checkD T C B who s.r s.v es = 0 then some (s.r, s.v, es) else none) w := ⟨_, rfl⟩
  rw [← hQ]
  have HQ := hide hQ
  unfold headOK at hf
  simp only [Bool.and_eq_true, decide_eq_true_eq] at hf
  obtain ⟨⟨⟨⟨⟨a1, a2⟩, a3⟩, a4⟩, a5⟩, a6⟩ := hf
  have hne := neqWord c ⟨c.v, 0, 0⟩
  rw [a6] at hne
  simp only [Bool.not_true] at hne
  have a3' : (s.f != 0) = false := by simpa using a3
  have Hne := hide hne
  clear a3 a6 hne
  have HP := hide hP
  have HN := hide hN
  have HM := hide hM
  have Hl := hide hl
  have Hok := hide hok
  have Hsw := hide hsw
  have Hcw := hide hcw
  have s0 := hM.w0 hsw
  have s1 := hM.w1 hsw
  have s2 := hM.w2 hsw
  have c0 := hM.w0 hcw
  have c1 := hM.w1 hcw
  have c2 := hM.w2 hcw
  have hnn : ¬ ((n : Int) < fromL T C B 7) := by omega
  have hb' : b < w.heap.size + 1 := by omega
  have hb'' : b < w.heap.size + 1 + 1 := by omega
  have hk0 : (0 : Int) ≤ (p : Int) := by omega
  have hk1 : (p : Int) < (n : Int) := by omega
  have hk2 : (0 : Int) ≤ (p : Int) + 1 := by omega
  have hk3 : (p : Int) + 1 < (n : Int) := by omega
  have hwk : IntKind.i64.wrap ((p : Int) + 1) = (p : Int) + 1 := IntWalk.i64_in _ (by omega)
  have hwr : wrap64 s.r = s.r := by
    have h := hok s (List.mem_of_getElem? hsw)
    unfold W3.ok at h
    unfold wrap64
    omega
  clear hP hN hM hl hok hsw hcw hQ
  go_enter Tryz.func53, Tryz.ntmps53
  go_upto_region 6 with (first
    | (go_at_call 12; refine (check_ok T C B _ hv (hs.below (by repeat' (first | with_reducible exact Below.refl _ _ | with_reducible assumption | with_reducible refine Below.alloc ?_ ?_ _ | with_reducible refine Below.setCell ?_ ?_ _ | with_reducible refine Below.drew ?_ | with_reducible refine below_drewN ?_ _ | with_reducible refine Below.trans ?_ (Below.mono (by with_reducible assumption) ?_) | omega | (simp <;> omega))))).mono ?_; rintro e w1 ⟨rfl, hb1⟩; obtain ⟨hcc1, hff1⟩ := bcell hb1; have hs1 := hb1.size; (try simp at hs1); have hz1 : w.heap.size < w1.heap.size := (by omega); have hy1 : w.heap.size + 1 < w1.heap.size := (by omega); have hq1 : 0 < w1.heap.size := (by omega); have hv1 : b < w1.heap.size := (by omega))
    | (go_at_call 21; refine (size_ok T C B _ hv (hs.below (by repeat' (first | with_reducible exact Below.refl _ _ | with_reducible assumption | with_reducible refine Below.alloc ?_ ?_ _ | with_reducible refine Below.setCell ?_ ?_ _ | with_reducible refine Below.drew ?_ | with_reducible refine below_drewN ?_ _ | with_reducible refine Below.trans ?_ (Below.mono (by with_reducible assumption) ?_) | omega | (simp <;> omega))))).mono ?_; rintro e w2 ⟨rfl, hb2⟩; obtain ⟨hcc2, hff2⟩ := bcell hb2; have hs2 := hb2.size; (try simp at hs2); have hz2 : w.heap.size < w2.heap.size := (by omega); have hy2 : w.heap.size + 1 < w2.heap.size := (by omega); have hq2 : 0 < w2.heap.size := (by omega); have hv2 : b < w2.heap.size := (by omega))
    | (go_at_call 19; refine (place_any T C B who _ hv (hs.below (by repeat' (first | with_reducible exact Below.refl _ _ | with_reducible assumption | with_reducible refine Below.alloc ?_ ?_ _ | with_reducible refine Below.setCell ?_ ?_ _ | with_reducible refine Below.drew ?_ | with_reducible refine below_drewN ?_ _ | with_reducible refine Below.trans ?_ (Below.mono (by with_reducible assumption) ?_) | omega | (simp <;> omega)))) h0 h1).mono ?_; rintro e w3 ⟨rfl, hb3⟩; rw [HP.out, HN.out]; obtain ⟨hcc3, hff3⟩ := bcell hb3; have hs3 := hb3.size; (try simp at hs3); have hz3 : w.heap.size < w3.heap.size := (by omega); have hy3 : w.heap.size + 1 < w3.heap.size := (by omega); have hq3 : 0 < w3.heap.size := (by omega); have hv3 : b < w3.heap.size := (by omega)))
  have s0' : w3.cell? ⟨b, p * 3, none⟩ = some (.int .i64 s.v) := by go_simp
  have s1' : w3.cell? ⟨b, p * 3 + 1, none⟩ = some (.int .u32 s.r) := by go_simp
  have s2' : w3.cell? ⟨b, p * 3 + 2, none⟩ = some (.int .u32 s.f) := by go_simp
  have c0' : w3.cell? ⟨b, (p + 1) * 3, none⟩ = some (.int .i64 c.v) := by go_simp
  have c1' : w3.cell? ⟨b, (p + 1) * 3 + 1, none⟩ = some (.int .u32 c.r) := by go_simp
  have c2' : w3.cell? ⟨b, (p + 1) * 3 + 2, none⟩ = some (.int .u32 c.f) := by go_simp
  have e0 : w3.cell? ⟨w.heap.size, 0, none⟩ = some (.int .i64 T) := by go_simp
  have e1 : w3.cell? ⟨w.heap.size, 1, none⟩ = some (.int .i64 C) := by go_simp
  have e2 : w3.cell? ⟨w.heap.size, 2, none⟩ = some (.int .i64 B) := by go_simp
  have r0 : w3.cell? ⟨w.heap.size + 1, 0, none⟩ = some (.int .i64 0) := by go_simp
  have r1 : w3.cell? ⟨w.heap.size + 1, 1, none⟩ = some (.int .i64 0) := by go_simp
  have r2 : w3.cell? ⟨w.heap.size + 1, 2, none⟩ = some (.int .i64 0) := by go_simp
  have r3 : w3.cell? ⟨w.heap.size + 1, 3, none⟩ = some (.slice none 0 0) := by go_simp
  have p0 : ∀ o, w3.frozen? ⟨w.heap.size + 1, o, none⟩ = false := fun o => by
    rw [hff3 _ _ (by omega), hff2 _ _ (by omega), hff1 _ _ (by simp)]
    exact World.frozen?_alloc_at _ _ _ _ (by simp)
  have hB3 : Below w.heap.size w w3 := (by repeat' (first | with_reducible exact Below.refl _ _ | with_reducible assumption | with_reducible refine Below.alloc ?_ ?_ _ | with_reducible refine Below.setCell ?_ ?_ _ | with_reducible refine Below.drew ?_ | with_reducible refine below_drewN ?_ _ | with_reducible refine Below.trans ?_ (Below.mono (by with_reducible assumption) ?_) | omega | (simp <;> omega)))
  have HM3 := hide (HM.out.grow hB3)
  have hs3' := hs.below hB3
  have hnb : ¬ w3.heap.size = b := by omega
  have hnb2 : ¬ w3.heap.size + 1 = b := by omega
  clear hcc1 hff1 hcc2 hff2 hcc3 hff3 hb1 hb2 hb3 s0 s1 s2 c0 c1 c2
  go_cut [10, 11] (fun s10 s11 wx => ∃ B1 B2 : Nat, s10 = .pointer (some ⟨B1, 0, none⟩) ∧ s11 = .pointer (some ⟨B2, 0, none⟩) ∧ w3.heap.size ≤ B1 ∧ w3.heap.size ≤ B2 ∧ B1 < wx.heap.size ∧ B2 < wx.heap.size ∧ (wx.cell? ⟨B1, 0, none⟩ = some (.int .i64 s.v) ∧ wx.cell? ⟨B1, 1, none⟩ = some (.int .u32 s.r) ∧ wx.cell? ⟨B1, 2, none⟩ = some (.int .u32 s.f)) ∧ (wx.cell? ⟨B2, 0, none⟩ = some (.int .i64 c.v) ∧ wx.cell? ⟨B2, 1, none⟩ = some (.int .u32 c.r) ∧ wx.cell? ⟨B2, 2, none⟩ = some (.int .u32 c.f)) ∧ Below w3.heap.size w3 wx)
  case first =>
    go_region_held3 (fun w' => w'.cell? ⟨b, p * 3, none⟩ = some (.int .i64 s.v) ∧ w'.cell? ⟨b, p * 3 + 1, none⟩ = some (.int .u32 s.r) ∧ w'.cell? ⟨b, p * 3 + 2, none⟩ = some (.int .u32 s.f) ∧ w'.cell? ⟨b, (p + 1) * 3, none⟩ = some (.int .i64 c.v) ∧ w'.cell? ⟨b, (p + 1) * 3 + 1, none⟩ = some (.int .u32 c.r) ∧ w'.cell? ⟨b, (p + 1) * 3 + 2, none⟩ = some (.int .u32 c.f))
      (first | exact ⟨by go_simp, by go_simp, by go_simp, by go_simp, by go_simp, by go_simp⟩ | go_keep)
      (fail)
    all_goals go_wp2_with fail
    all_goals go_meet
    all_goals exact ⟨_, _, rfl, rfl, by omega, by omega, by (try simp) <;> (try omega), by (try simp) <;> (try omega), ⟨by go_simp, by go_simp, by go_simp⟩, ⟨by go_simp, by go_simp, by go_simp⟩, (by repeat' (first | with_reducible exact Below.refl _ _ | with_reducible assumption | with_reducible refine Below.alloc ?_ ?_ _ | with_reducible refine Below.setCell ?_ ?_ _ | with_reducible refine Below.drew ?_ | with_reducible refine below_drewN ?_ _ | with_reducible refine Below.trans ?_ (Below.mono (by with_reducible assumption) ?_) | omega | (simp <;> omega)))⟩
  case rest =>
    obtain ⟨B1, B2, rfl, rfl, g1, g2, g3, g4, ⟨sb0, sb1, sb2⟩, ⟨cb0, cb1, cb2⟩, hBc⟩ := hcut
    have hbc : ∀ x o, x < w3.heap.size → wc.cell? ⟨x, o, none⟩ = w3.cell? ⟨x, o, none⟩ := fun x o hx => hBc.cell (p := ⟨x, o, none⟩) hx
    have r0c := (hbc _ 0 hy3).trans r0
    have r1c := (hbc _ 1 hy3).trans r1
    have r2c := (hbc _ 2 hy3).trans r2
    have r3c := (hbc _ 3 hy3).trans r3
    have e0c := (hbc _ 0 hz3).trans e0
    have e1c := (hbc _ 1 hz3).trans e1
    have e2c := (hbc _ 2 hz3).trans e2
    have p0c : ∀ o, wc.frozen? ⟨w.heap.size + 1, o, none⟩ = false := fun o => (hBc.frozen (p := ⟨w.heap.size + 1, o, none⟩) hy3).trans (p0 o)
    have HMc := hide (HM3.out.grow hBc)
    have hsc := hs3'.below hBc
    have hsz := hBc.size
    have hBwc : Below w.heap.size w wc := hB3.trans (hBc.mono hB3.size)
    have hzc : w.heap.size < wc.heap.size := by omega
    have hyc : w.heap.size + 1 < wc.heap.size := by omega
    clear hbc r0 r1 r2 r3 e0 e1 e2 s0' s1' s2' c0' c1' c2' p0
    have hne := Hne.out
    go_wp2_with fail
    clear hne
    simp only [hwr]
    obtain ⟨i0, hi, iz0, iz1, iz2⟩ := info_parts info_entry
    obtain ⟨K, hK⟩ : ∃ K, K = wc.heap.size := ⟨_, rfl⟩
    go_loopw [87] (fun i wr => ∃ (k : Nat) (es : List En) (v : Value), i = .int .i64 k ∧ (k : Int) ≤ c.v ∧ entsL ws p k = some es ∧ (∀ e ∈ es, e.ok) ∧ BoxC wc.heap.size [.int .i64 who, .int .i64 s.r, .int .i64 s.v, v] wr ∧ wr.ownsRow (wc.heap.size + 1) 64 6 v k (es.flatMap ec) ∧ Below wc.heap.size wc wr) (fun i _ => (c.v - intOf i).toNat)
    case atStart => exact ⟨0, [], .slice none 0 0, rfl, by omega, rfl, by simp, BoxC.made _ _ _, World.ownsRow_nil _ _ _ _, (by repeat' (first | with_reducible exact Below.refl _ _ | with_reducible assumption | with_reducible refine Below.alloc ?_ ?_ _ | with_reducible refine Below.setCell ?_ ?_ _ | with_reducible refine Below.drew ?_ | with_reducible refine below_drewN ?_ _ | with_reducible refine Below.trans ?_ (Below.mono (by with_reducible assumption) ?_) | omega | (simp <;> omega)))⟩
    case round =>
      obtain ⟨k, es, v, rfl, hk, hes, heok, hX, hown, hB⟩ := hrel
      obtain ⟨A, capv, rfl, hcpv, hblv⟩ := own_slice hown
      have hsr := hB.size
      have hMr := HMc.out.grow hB
      have hKr := hX.2.2
      by_cases hlt : (k : Int) < c.v
      · have hkn : p + 2 + 3 * k + 2 < n := by omega
        have hx := get_getD (ws := ws) (k := p + 2 + 3 * k) (by rw [Hl.out]; omega)
        have hy := get_getD (ws := ws) (k := p + 2 + 3 * k + 1) (by rw [Hl.out]; omega)
        have hz := get_getD (ws := ws) (k := p + 2 + 3 * k + 2) (by rw [Hl.out]; omega)
        have hyok : (ws.getD (p + 2 + 3 * k + 1) z3).ok := Hok.out _ (List.mem_of_getElem? hy)
        have hent : entsL ws p (k + 1) = if (unpackL (ws.getD (p + 2 + 3 * k) z3) (ws.getD (p + 2 + 3 * k + 1) z3) (ws.getD (p + 2 + 3 * k + 2) z3)).2 = true then some (es ++ [(unpackL (ws.getD (p + 2 + 3 * k) z3) (ws.getD (p + 2 + 3 * k + 1) z3) (ws.getD (p + 2 + 3 * k + 2) z3)).1]) else none := by
          rw [entsL, hes]
        generalize ws.getD (p + 2 + 3 * k) z3 = x at hx hent
        generalize ws.getD (p + 2 + 3 * k + 1) z3 = y at hy hent hyok
        generalize ws.getD (p + 2 + 3 * k + 2) z3 = z at hz hent
        have x0 : wr.cell? ⟨b, (p + 2 + 3 * k) * 3, none⟩ = some (.int .i64 x.v) := by exact hMr.w0 hx
        have x1 : wr.cell? ⟨b, (p + 2 + 3 * k) * 3 + 1, none⟩ = some (.int .u32 x.r) := by exact hMr.w1 hx
        have x2 : wr.cell? ⟨b, (p + 2 + 3 * k) * 3 + 2, none⟩ = some (.int .u32 x.f) := by exact hMr.w2 hx
        have x3 : wr.cell? ⟨b, (p + 2 + 3 * k) * 3 + 3, none⟩ = some (.int .i64 y.v) := by have h := hMr.w0 hy; rw [show (p + 2 + 3 * k + 1) * 3 = (p + 2 + 3 * k) * 3 + 3 by omega] at h; exact h
        have x4 : wr.cell? ⟨b, (p + 2 + 3 * k) * 3 + 4, none⟩ = some (.int .u32 y.r) := by have h := hMr.w1 hy; rw [show (p + 2 + 3 * k + 1) * 3 + 1 = (p + 2 + 3 * k) * 3 + 4 by omega] at h; exact h
        have x5 : wr.cell? ⟨b, (p + 2 + 3 * k) * 3 + 5, none⟩ = some (.int .u32 y.f) := by have h := hMr.w2 hy; rw [show (p + 2 + 3 * k + 1) * 3 + 2 = (p + 2 + 3 * k) * 3 + 5 by omega] at h; exact h
        have x6 : wr.cell? ⟨b, (p + 2 + 3 * k) * 3 + 6, none⟩ = some (.int .i64 z.v) := by have h := hMr.w0 hz; rw [show (p + 2 + 3 * k + 2) * 3 = (p + 2 + 3 * k) * 3 + 6 by omega] at h; exact h
        have x7 : wr.cell? ⟨b, (p + 2 + 3 * k) * 3 + 7, none⟩ = some (.int .u32 z.r) := by have h := hMr.w1 hz; rw [show (p + 2 + 3 * k + 2) * 3 + 1 = (p + 2 + 3 * k) * 3 + 7 by omega] at h; exact h
        have x8 : wr.cell? ⟨b, (p + 2 + 3 * k) * 3 + 8, none⟩ = some (.int .u32 z.f) := by have h := hMr.w2 hz; rw [show (p + 2 + 3 * k + 2) * 3 + 2 = (p + 2 + 3 * k) * 3 + 8 by omega] at h; exact h
        obtain ⟨e, he⟩ : ∃ e, e = (unpackL x y z).1 := ⟨_, rfl⟩
        have hu := fun W => unpack_any x y z W
        rw [← he] at hu hent
        have Hent := hide hent
        have heok' : e.ok := by
          rw [he]
          unfold unpackL
          split
          · exact ⟨by decide, by decide, by decide, by decide, by decide, by decide⟩
          · split
            · exact hyok
            · exact ⟨by decide, by decide, by decide, by decide, by decide, by decide⟩
        clear he hent hx hy hz
        have hbr : b < wr.heap.size := hMr.2.2
        have hat := array_at
        have d0 := hX.at (j := 0) rfl
        have d1 := hX.at (j := 1) rfl
        have d2 := hX.at (j := 2) rfl
        have d3 := hX.at (j := 3) rfl
        have dz : ∀ o, wr.frozen? ⟨wc.heap.size, o, none⟩ = false := hX.2.1
        have j0 : (0 : Int) ≤ (p : Int) + 2 + 3 * (k : Int) := by omega
        have j1 : (p : Int) + 2 + 3 * (k : Int) + 3 ≤ (n : Int) := by omega
        have j2 : (p : Int) + 2 + 3 * (k : Int) + 3 ≤ (cap : Int) := by omega
        have j3 : (0 : Int) ≤ (p : Int) + 2 + 3 * (k : Int) + 3 := by omega
        have j4 : ¬ cap = p + 2 + 3 * k := by omega
        have j5 : p + 2 + 3 * k + 3 - (p + 2 + 3 * k) = 3 := by omega
        cases hq : (unpackL x y z).2 with
        | true =>
          have Hu := hide (fun W => by have h := hu W; rw [hq] at h; exact h)
          clear hu
          go_wp2_with (first
            | (go_at_call 78; refine (Hu.out _).mono ?_; rintro e' w5 ⟨rfl, hb5⟩; obtain ⟨hcc5, hff5⟩ := bcell hb5; have hs5 := hb5.size; (try simp at hs5); have hK5 : wc.heap.size < w5.heap.size := (by omega))
            | (at_builtin; refine wpList_append_rd rfl _ _ 55 rfl (wc.heap.size + 1) 64 i0 _ 6 40 Tryz.underlying55 hi iz0 iz1 iz2 rfl (by decide) (.slice A k capv) k (es.flatMap ec) rfl (own_below hown (by repeat' (first | with_reducible exact Below.refl _ _ | with_reducible assumption | with_reducible refine Below.alloc ?_ ?_ _ | with_reducible refine Below.setCell ?_ ?_ _ | with_reducible refine Below.drew ?_ | with_reducible refine below_drewN ?_ _ | with_reducible refine Below.trans ?_ (Below.mono (by with_reducible assumption) ?_) | omega | (simp <;> omega)))) (some ⟨w5.heap.size + 1, 0, none⟩) 1 1 (ec e) rfl _ (rd_ec (e := e) (by go_simp) (by go_simp) (by go_simp) (by go_simp) (by go_simp) (by go_simp)) (ec_ones e) (by unfold maxLen; omega) (by omega) (by simp; omega) (wc.heap.size + 1) _ (Below.refl _ _) (Nat.le_refl _) ?_; intro v' w6 hown6 hb6 hsz6; obtain ⟨A', cap', rfl, hcp', hbl'⟩ := own_slice hown6; have X6 : BoxC wc.heap.size [.int .i64 who, .int .i64 s.r, .int .i64 s.v, .slice A k capv] w6 := (hX.below (by first | exact (by repeat' (first | with_reducible exact Below.refl _ _ | with_reducible assumption | with_reducible refine Below.alloc ?_ ?_ _ | with_reducible refine Below.setCell ?_ ?_ _ | with_reducible refine Below.drew ?_ | with_reducible refine below_drewN ?_ _ | with_reducible refine Below.trans ?_ (Below.mono (by with_reducible assumption) ?_) | omega | (simp <;> omega))))).under hb6 (by omega); have d36 := X6.at (j := 3) rfl; have dz6 : ∀ o, w6.frozen? ⟨wc.heap.size, o, none⟩ = false := X6.2.1))
          have hBx : Below wc.heap.size wc w6 := by
            have h1 : Below wc.heap.size wc w5 := hB.trans (hb5.mono hB.size)
            have h2 : Below (wc.heap.size + 1) w5 w6 := ((((Below.refl _ _).alloc (by omega) _).alloc (by simp; omega) _).trans hb6)
            exact h1.trans (h2.mono (by omega))
          have hent2 : entsL ws p (k + 1) = some (es ++ [e]) := by
            have h := Hent.out
            rw [hq, if_pos rfl] at h
            exact h
          refine ⟨⟨k + 1, es ++ [e], .slice A' (k + 1) cap', by go_num, by omega, hent2, ?_, ?_, ?_, ?_⟩, by simp [intOf]; omega⟩
          · intro x hx
            rcases List.mem_append.1 hx with h | h
            · exact heok x h
            · rw [List.mem_singleton.1 h]; exact heok'
          · exact X6.store (o := 3) (by simp) _
          · rw [List.flatMap_append]
            have h := ownsRow_setCell_below hown6 (a := ⟨wc.heap.size, 3, none⟩) (by simp) (.slice A' (k + 1) cap')
            simpa using h
          · exact (by repeat' (first | with_reducible exact Below.refl _ _ | with_reducible assumption | with_reducible refine Below.alloc ?_ ?_ _ | with_reducible refine Below.setCell ?_ ?_ _ | with_reducible refine Below.drew ?_ | with_reducible refine below_drewN ?_ _ | with_reducible refine Below.trans ?_ (Below.mono (by with_reducible assumption) ?_) | omega | (simp <;> omega)))
        | false =>
          have Hu := hide (fun W => by have h := hu W; rw [hq] at h; exact h)
          clear hu
          have hnone : entsL ws p c.v.toNat = none := by
            have h := Hent.out
            rw [hq, if_neg (by simp)] at h
            have h2 := entsL_none (c.v.toNat - (k + 1)) h
            rw [show k + 1 + (c.v.toNat - (k + 1)) = c.v.toNat by omega] at h2
            exact h2
          have hbc2 : ∀ x o, x < wc.heap.size → wr.cell? ⟨x, o, none⟩ = wc.cell? ⟨x, o, none⟩ := fun x o hx => hB.cell (p := ⟨x, o, none⟩) hx
          have q0 := (hbc2 _ 0 hyc).trans r0c
          have q1 := (hbc2 _ 1 hyc).trans r1c
          have q2 := (hbc2 _ 2 hyc).trans r2c
          have q3 := (hbc2 _ 3 hyc).trans r3c
          have qz : ∀ o, wr.frozen? ⟨w.heap.size + 1, o, none⟩ = false := fun o => (hB.frozen (p := ⟨w.heap.size + 1, o, none⟩) hyc).trans (p0c o)
          have hyr : w.heap.size + 1 < wr.heap.size := by omega
          have Hnone := hide hnone
          have hBw : Below w.heap.size w wr := hBwc.trans (hB.mono hBwc.size)
          clear hbc2 hnone
          go_wp2_with (first
            | (go_at_call 78; refine (Hu.out _).mono ?_; rintro e' w5 ⟨rfl, hb5⟩; obtain ⟨hcc5, hff5⟩ := bcell hb5; have hs5 := hb5.size; (try simp at hs5); have hy5 : w.heap.size + 1 < w5.heap.size := (by omega)))
          have t0 : w5.cell? ⟨w.heap.size + 1, 0, none⟩ = some (.int .i64 0) := by go_simp
          have t1 : w5.cell? ⟨w.heap.size + 1, 1, none⟩ = some (.int .i64 0) := by go_simp
          have t2 : w5.cell? ⟨w.heap.size + 1, 2, none⟩ = some (.int .i64 0) := by go_simp
          have t3 : w5.cell? ⟨w.heap.size + 1, 3, none⟩ = some (.slice none 0 0) := by go_simp
          skip
          exact bodyPost_ret (v := .tuple #[.agg #[.int .i64 0, .int .i64 0, .int .i64 0, .slice none 0 0], .int .i64 5]) (by simp [results, Tryz.results53, go_sem, t0, t1, t2, t3, hy5]) rfl (by rw [HQ.out, Hnone.out]; exact ⟨5, by decide, rfl, (by repeat' (first | with_reducible exact Below.refl _ _ | with_reducible assumption | with_reducible refine Below.alloc ?_ ?_ _ | with_reducible refine Below.setCell ?_ ?_ _ | with_reducible refine Below.drew ?_ | with_reducible refine below_drewN ?_ _ | with_reducible refine Below.trans ?_ (Below.mono (by with_reducible assumption) ?_) | omega | (simp <;> omega)))⟩)
      · have hkc : (k : Int) = c.v := by omega
        have hkc2 : c.v.toNat = k := by omega
        have hlen := entsL_len hes
        have hk32 : k ≤ 1000 := by omega
        have Hrd := hide (own_rd hown)
        have hcm := own_cap hown
        have d0 := hX.at (j := 0) rfl
        have d1 := hX.at (j := 1) rfl
        have d2 := hX.at (j := 2) rfl
        have d3 := hX.at (j := 3) rfl
        have hbc2 : ∀ x o, x < wc.heap.size → wr.cell? ⟨x, o, none⟩ = wc.cell? ⟨x, o, none⟩ := fun x o hx => hB.cell (p := ⟨x, o, none⟩) hx
        have q0 := (hbc2 _ 0 hyc).trans r0c
        have q1 := (hbc2 _ 1 hyc).trans r1c
        have q2 := (hbc2 _ 2 hyc).trans r2c
        have q3 := (hbc2 _ 3 hyc).trans r3c
        have f0 := (hbc2 _ 0 hzc).trans e0c
        have f1 := (hbc2 _ 1 hzc).trans e1c
        have f2 := (hbc2 _ 2 hzc).trans e2c
        have qz : ∀ o, wr.frozen? ⟨w.heap.size + 1, o, none⟩ = false := fun o => (hB.frozen (p := ⟨w.heap.size + 1, o, none⟩) hyc).trans (p0c o)
        have hyr : w.heap.size + 1 < wr.heap.size := by omega
        have hzr : w.heap.size < wr.heap.size := by omega
        have hBw : Below w.heap.size w wr := hBwc.trans (hB.mono hBwc.size)
        have hsr2 := hsc.below hB
        have Hes : Hid (entsL ws p c.v.toNat = some es) := hide (by rw [hkc2]; exact hes)
        have Hok2 := hide heok
        have Hlen := hide hlen
        have hci := fun W hs' hr' => checkd_any T C B who s.r s.v A k capv es W hv hs' h0 h1 hr' hlen hk32 hcpv hcm heok
        obtain ⟨E, hE⟩ : ∃ E, E = checkD T C B who s.r s.v es := ⟨_, rfl⟩
        simp only [← hE] at hci
        have Hci := hide hci
        have HE := hide hE
        clear hbc2 hes heok hown hlen hci hE
        by_cases hz : E = 0
        · subst hz
          go_wp2_with (first
            | (go_at_call 48; refine (Hci.out _ hsr2 Hrd.out).mono ?_; rintro e' w5 ⟨rfl, hb5⟩; obtain ⟨hcc5, hff5⟩ := bcell hb5; have hs5 := hb5.size; (try simp at hs5); have hy5 : w.heap.size + 1 < w5.heap.size := (by omega)))
          have t0 : w5.cell? ⟨w.heap.size + 1, 0, none⟩ = some (.int .i64 0) := by go_simp
          have t1 : w5.cell? ⟨w.heap.size + 1, 1, none⟩ = some (.int .i64 0) := by go_simp
          have t2 : w5.cell? ⟨w.heap.size + 1, 2, none⟩ = some (.int .i64 0) := by go_simp
          have t3 : w5.cell? ⟨w.heap.size + 1, 3, none⟩ = some (.slice none 0 0) := by go_simp
          refine bodyPost_ret (v := .tuple #[.agg #[.int .i64 who, .int .i64 s.r, .int .i64 s.v, .slice A k capv], .int .i64 0]) (by simp [results, Tryz.results53, go_sem, t0, t1, t2, t3, hy5]) rfl ?_
          rw [HQ.out, Hes.out]
          simp only [← HE.out, if_true]
          have hl2 := Hlen.out
          subst hl2
          refine ⟨A, capv, rfl, ?_, hcpv, (by repeat' (first | with_reducible exact Below.refl _ _ | with_reducible assumption | with_reducible refine Below.alloc ?_ ?_ _ | with_reducible refine Below.setCell ?_ ?_ _ | with_reducible refine Below.drew ?_ | with_reducible refine below_drewN ?_ _ | with_reducible refine Below.trans ?_ (Below.mono (by with_reducible assumption) ?_) | omega | (simp <;> omega)))⟩
          have hr5 := Hrd.out.below hb5
          have hkk : ∀ b off, A = some ⟨b, off, none⟩ → wc.heap.size + 1 ≤ b := hblv
          exact rd_set4 (hr5.more hs5) (fun b off e => by have := hkk b off e; omega) _ _ _ _
        · have hzb : (E != 0) = true := by simp [hz]
          go_wp2_with (first
            | (go_at_call 48; refine (Hci.out _ hsr2 Hrd.out).mono ?_; rintro e' w5 ⟨rfl, hb5⟩; obtain ⟨hcc5, hff5⟩ := bcell hb5; have hs5 := hb5.size; (try simp at hs5); have hy5 : w.heap.size + 1 < w5.heap.size := (by omega)))
          have t0 : w5.cell? ⟨w.heap.size + 1, 0, none⟩ = some (.int .i64 0) := by go_simp
          have t1 : w5.cell? ⟨w.heap.size + 1, 1, none⟩ = some (.int .i64 0) := by go_simp
          have t2 : w5.cell? ⟨w.heap.size + 1, 2, none⟩ = some (.int .i64 0) := by go_simp
          have t3 : w5.cell? ⟨w.heap.size + 1, 3, none⟩ = some (.slice none 0 0) := by go_simp
          refine bodyPost_ret (v := .tuple #[.agg #[.int .i64 0, .int .i64 0, .int .i64 0, .slice none 0 0], .int .i64 5]) (by simp [results, Tryz.results53, go_sem, t0, t1, t2, t3, hy5]) rfl ?_
          rw [HQ.out, Hes.out]
          simp only [← HE.out, hz, if_false]
          exact ⟨5, by decide, rfl, (by repeat' (first | with_reducible exact Below.refl _ _ | with_reducible assumption | with_reducible refine Below.alloc ?_ ?_ _ | with_reducible refine Below.setCell ?_ ?_ _ | with_reducible refine Below.drew ?_ | with_reducible refine below_drewN ?_ _ | with_reducible refine Below.trans ?_ (Below.mono (by with_reducible assumption) ?_) | omega | (simp <;> omega)))⟩
end Go.Proofs.YtbomhhkknopdpaaGreatDoor
