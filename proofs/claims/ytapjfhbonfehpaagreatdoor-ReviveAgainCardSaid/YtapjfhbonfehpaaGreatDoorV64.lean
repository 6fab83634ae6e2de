/- Package desc: Read. -/
import Derived.Deep.DeepCutAuto
import Derived.Test.YtapjfhbonfehpaaGreatDoorV17
import Derived.Test.YtapjfhbonfehpaaGreatDoorV18
import Derived.Test.YtapjfhbonfehpaaGreatDoorV63
set_option linter.unusedSimpArgs false
set_option linter.unusedVariables false
set_option maxRecDepth 100000
set_option maxHeartbeats 40000000
namespace Go.Proofs.YtapjfhbonfehpaaGreatDoor
open Go.RowKit
theorem GL (T C B who N : Int) (b n cap p : Nat) (s c : W3) (ws : List W3) (w : World) (hv : aC T C B) (hs : ai w) (h0 : -1000 ≤ who) (h1 : who ≤ 1000) (hM : Mem b ws w) (hl : ws.length = n) (hnm : n ≤ 1000000) (hok : ∀ x ∈ ws, x.ok)
  (hn : ah T C B 7 ≤ n) (hP : aF T C B who = (p : Int)) (hN : aD T C B who = N) (lM : (N == 0) = false) (hN1 : 0 < N) (yS : N ≤ 32) (hpn : (p : Int) + 2 + 3 * N ≤ n) (hsw : ws[p]? = some s) (hcw : ws[p + 1]? = some c) (hf : mF s c N = false) :
  Calls Tryz.prog 46 #[(.agg #[.int .i64 T, .int .i64 C, .int .i64 B]), .slice (some ⟨b, 0, none⟩) n cap, .int .i64 who] w fun e w' => mO who none w e w' := by
 have hp := hs.pos;have hb := hM.2.2;obtain ⟨Q, hQ⟩ : ∃ Q : Ending → World → Prop, Q = mO who none w := ⟨_, rfl⟩;rw [← hQ];have HQ := aa hQ;have Hf := aa hf;clear hf;have HP := aa hP;have HN := aa hN;have HM := aa hM;have Hl := aa hl;have pd := aa hok;have Hsw := aa hsw;have Vp := aa hcw;have s0 := hM.w0 hsw;have s1 := hM.w1 hsw;have s2 := hM.w2 hsw;have c0 := hM.w0 hcw;have c1 := hM.w1 hcw;have c2 := hM.w2 hcw;have hnn : ¬ ((n : Int) < ah T C B 7) := by omega
 have hb' : b < w.heap.size + 1 := by omega
 have OU : b < w.heap.size + 1 + 1 := by omega
 have hk0 : (0 : Int) ≤ (p : Int) := by omega
 have hk1 : (p : Int) < (n : Int) := by omega
 have hk2 : (0 : Int) ≤ (p : Int) + 1 := by omega
 have hk3 : (p : Int) + 1 < (n : Int) := by omega
 have hwk : IntKind.i64.wrap ((p : Int) + 1) = (p : Int) + 1 := IntWalk.i64_in _ oM;clear hP hN hM hl hok hsw hcw hQ;go_enter Tryz.func46, Tryz.ntmps46;go_upto_region 6 with (first
  | (go_at_call 18; refine rB (cZ T C B _ hv (hs.below ae)) ?_; intro w1 hb1 ar aA hs1; (try simp at hs1); have hz1 := zL w.heap.size w1; have hy1 := zL (w.heap.size + 1) w1; have hq1 := zL 0 w1; have hv1 := zL b w1)
  | (go_at_call 19; refine rB (fM T C B _ hv (hs.below ae)) ?_; intro w2 hb2 aH aL hs2; (try simp at hs2); have hz2 := zL w.heap.size w2; have hy2 := zL (w.heap.size + 1) w2; have hq2 := zL 0 w2; have hv2 := zL b w2)
  | (go_at_call 14; refine (dC T C B who _ hv (hs.below ae) h0 h1).mono ?_; rintro e w3 ⟨rfl, hb3⟩; rw [HP.out, HN.out]; obtain ⟨cN, cH, hs3⟩ := bC hb3; (try simp at hs3); have hz3 := zL w.heap.size w3; have nN := zL (w.heap.size + 1) w3; have hq3 := zL 0 w3; have hv3 := zL b w3))
 have s0' := cI w3 b (p * 3) s.v;have s1' := cE w3 b (p * 3 + 1) (.int .u32 s.r);have s2' := cE w3 b (p * 3 + 2) (.int .u32 s.f);have c0' := cI w3 b ((p + 1) * 3) c.v;have c1' := cE w3 b ((p + 1) * 3 + 1) (.int .u32 c.r);have WG := cE w3 b ((p + 1) * 3 + 2) (.int .u32 c.f);have e0 := cI w3 w.heap.size 0 T;have e1 := cI w3 w.heap.size 1 C;have e2 := cI w3 w.heap.size 2 B;have r0 := cI w3 (w.heap.size + 1) 0 0;have r1 := cI w3 (w.heap.size + 1) 1 0;have r2 := cI w3 (w.heap.size + 1) 2 0;have r3 := cE w3 (w.heap.size + 1) 3 (.slice none 0 0);have p0 : ∀ o, w3.frozen? ⟨w.heap.size + 1, o, none⟩ = false := fun o => by
  rw [cH _ _ oM, aL _ _ oM, aA _ _ sM];exact World.frozen?_alloc_at _ _ _ _ sM
 have hB3 : Below w.heap.size w w3 := ae;have Dc := aa (HM.out.grow hB3);have E8 := hs.below hB3;have hnb : ¬ w3.heap.size = b := by omega
 have aaV : ¬ w3.heap.size + 1 = b := by omega
 clear ar aA aH aL cN cH hb1 hb2 hb3 s0 s1 s2 c0 c1 c2;go_cut [10, 11] (fun Q9 Q8 wx => ∃ B1 B2 : Nat, Q9 = .pointer (some ⟨B1, 0, none⟩) ∧ Q8 = .pointer (some ⟨B2, 0, none⟩) ∧ w3.heap.size ≤ B1 ∧ w3.heap.size ≤ B2 ∧ B1 < wx.heap.size ∧ B2 < wx.heap.size ∧ (wx.cell? ⟨B1, 0, none⟩ = some (.int .i64 s.v) ∧ wx.cell? ⟨B1, 1, none⟩ = some (.int .u32 s.r) ∧ wx.cell? ⟨B1, 2, none⟩ = some (.int .u32 s.f)) ∧ (wx.cell? ⟨B2, 0, none⟩ = some (.int .i64 c.v) ∧ wx.cell? ⟨B2, 1, none⟩ = some (.int .u32 c.r) ∧ wx.cell? ⟨B2, 2, none⟩ = some (.int .u32 c.f)) ∧ Below w3.heap.size w3 wx)
 case first =>
  go_region_held3 (fun w' => w'.cell? ⟨b, p * 3, none⟩ = some (.int .i64 s.v) ∧ w'.cell? ⟨b, p * 3 + 1, none⟩ = some (.int .u32 s.r) ∧ w'.cell? ⟨b, p * 3 + 2, none⟩ = some (.int .u32 s.f) ∧ w'.cell? ⟨b, (p + 1) * 3, none⟩ = some (.int .i64 c.v) ∧ w'.cell? ⟨b, (p + 1) * 3 + 1, none⟩ = some (.int .u32 c.r) ∧ w'.cell? ⟨b, (p + 1) * 3 + 2, none⟩ = some (.int .u32 c.f))
   (first | exact ⟨by go_simp, by go_simp, by go_simp, by go_simp, by go_simp, by go_simp⟩ | go_keep)
   (fail)
  all_goals go_wp2_with fail
  all_goals go_meet
  all_goals exact ⟨_, _, rfl, rfl, by omega, by omega, by (try simp) <;> (try omega), by (try simp) <;> (try omega), ⟨by go_simp, by go_simp, by go_simp⟩, ⟨by go_simp, by go_simp, by go_simp⟩, ae⟩
 case rest =>
  obtain ⟨B1, B2, rfl, rfl, g1, g2, g3, g4, ⟨sb0, sb1, sb2⟩, ⟨cb0, cb1, cb2⟩, jL⟩ := hcut;have hbc : ∀ x o, x < w3.heap.size → wc.cell? ⟨x, o, none⟩ = w3.cell? ⟨x, o, none⟩ := fun x o hx => jL.cell (p := ⟨x, o, none⟩) hx;have GZ := (hbc _ 0 nN).trans r0;have GY := (hbc _ 1 nN).trans r1;have MI := (hbc _ 2 nN).trans r2;have MH := (hbc _ 3 nN).trans r3;have e0c := (hbc _ 0 hz3).trans e0;have e1c := (hbc _ 1 hz3).trans e1;have e2c := (hbc _ 2 hz3).trans e2;have p0c : ∀ o, wc.frozen? ⟨w.heap.size + 1, o, none⟩ = false := fT jL p0 nN;have HMc := aa (Dc.out.grow jL);have hsc := E8.below jL;have hsz := jL.size;have Jh : Below w.heap.size w wc := hB3.trans (jL.mono hB3.size);have hzc := zL w.heap.size wc;have Ix := zL (w.heap.size + 1) wc;clear hbc r0 r1 r2 r3 e0 e1 e2 s0' s1' s2' c0' c1' WG p0;by_cases a1 : s.v < 0
  ·exact Mr
  by_cases a2 : 3 < s.v
  ·exact Mr
  cases a3 : (s.f != 0) with
  | true =>
   go_wp2_with fail;exact bodyPost_ret (v := .tuple #[.agg #[.int .i64 0, .int .i64 0, .int .i64 0, .slice none 0 0], .int .i64 5]) (by simp [results, Tryz.results46, go_sem, GZ, GY, MI, MH]) rfl (by rw [HQ.out]; exact ⟨5, by decide, rfl, ae⟩)
  | false =>
  by_cases a4 : c.v < 1
  ·exact Mr
  by_cases a5 : N < c.v
  ·exact Mr
  have hne := sD c ⟨c.v, 0, 0⟩;cases a6 : ql c ⟨c.v, 0, 0⟩ with
  | false =>
   rw [a6] at hne;simp only [Bool.not_false] at hne;go_wp2_with fail;exact bodyPost_ret (v := .tuple #[.agg #[.int .i64 0, .int .i64 0, .int .i64 0, .slice none 0 0], .int .i64 5]) (by simp [results, Tryz.results46, go_sem, GZ, GY, MI, MH]) rfl (by rw [HQ.out]; exact ⟨5, by decide, rfl, ae⟩)
  | true =>
   have a3' : (s.f == 0) = true := by simpa using a3
   have h := Hf.out;unfold mF at h;rw [a3', a6, decide_eq_true (show 0 ≤ s.v by omega), decide_eq_true (show s.v ≤ 3 by omega), decide_eq_true (show 1 ≤ c.v by omega), decide_eq_true (show c.v ≤ N by omega)] at h;exact absurd h sM
end Go.Proofs.YtapjfhbonfehpaaGreatDoor
