/- Package task: Give and Start. -/
import Derived.Deep.RegionLaw
import Derived.Deep.DeepCutAuto
import Derived.Test.YtapjfhbonfehpaaGreatDoorV09
import Derived.Test.YtapjfhbonfehpaaGreatDoorV16
set_option linter.unusedSimpArgs false
set_option linter.unusedVariables false
set_option maxRecDepth 100000
set_option maxHeartbeats 40000000
namespace Go.Proofs.YtapjfhbonfehpaaGreatDoor
open Go.RowKit
theorem zV : (Tryz.prog.info? 177).map (fun i => (i.zero, i.size, i.bytes)) = some (some (.agg #[.int .i64 0, .int .u32 0, .int .u32 0, .bool false]), 4, 24) := by kernel_rfl
def dX (w : World) (A : Option Addr) (m cp : Nat) (xs : List Value) : Prop := m ≤ cp ∧ (A = none → m = 0) ∧ Rd w w.heap.size 4 A m xs
def UQ (w : World) (A : Option Addr) : Prop := ∀ b off, A = some ⟨b, off, none⟩ → w.heap.size ≤ b
theorem dX.below {w w' : World} {A : Option Addr} {m cp : Nat} {xs : List Value} (h : dX w A m cp xs) (hb : Below w.heap.size w w') : dX w' A m cp xs := by
 obtain ⟨h1, h2, h3⟩ := h;exact ⟨h1, h2, (h3.below hb).more hb.size⟩
theorem UN {p : Prop} (h : p := by
 go_region_law (first
  | (refine lv rfl (.tmp 13) (.tmp 15) 155 rfl 177 i0 _ 4 24 Tryz.underlying155 hi fF fw fD w.heap.size A m xs (by simp [Act.eval, Act.put]) (QH.out.below ae) HA.out ⟨w1.heap.size, 0, none⟩ 1 [.int .i64 g.v, .int .u32 g.r, .int .u32 g.f, .bool g.k] (by simp [Act.eval, Act.put]) rfl ?_ (by unfold maxLen; omega) oM ?_; (focus (intro j u hu; match j, hu with | 0, hu => (simp at hu; subst hu; simp [Addr.add]) | 1, hu => (simp at hu; subst hu; simp [Addr.add]) | 2, hu => (simp at hu; subst hu; simp [Addr.add]) | 3, hu => (simp at hu; subst hu; simp [Addr.add]) | j + 4, hu => simp at hu)); intro qm w2 hcp yl hb2 hz3; obtain ⟨aH, aL⟩ := bE hb2)
  | (go_simp; go_at_call 100; refine (JD A m cp _ hmc).mono ?_; rintro e w3 ⟨rfl, rfl⟩))
 all_goals go_wp2_with fail
 all_goals go_meet
 all_goals have hx2 : w1.heap.size + 1 < w2.heap.size := (by have h := hz3; (try simp at h); omega)
 all_goals have hx1 := zL w1.heap.size w2
 all_goals have hb0 : Below w.heap.size w w2 := ae
 all_goals have r10 := cE w2 w.heap.size 10 (.slice A m cp)
 all_goals refine ⟨qm, rfl, ⟨by go_simp, by go_simp, by go_simp, by go_simp, by go_simp, by go_simp, by go_simp, by go_simp, by go_simp, by go_simp, by go_simp, by go_simp, by go_simp, by go_simp, by go_simp⟩, ⟨by go_simp, by go_simp, by go_simp, by go_simp, by go_simp, by go_simp, by go_simp, by go_simp, by go_simp, by go_simp, by go_simp⟩, fun o => ?_, ae, by simp; omega, ?_, hcp.out⟩
 all_goals first
  | (rw [World.frozen?_setCell, aL _ _ (by simp <;> omega)]; go_simp; done)
  | skip
 all_goals have h7 := yl.out
 all_goals (try simp at h7)
 all_goals with_reducible refine Rd.set_far ?_ oM _
 all_goals exact Rd.more h7 sM) : p := h
structure GC (lo : Nat) (G : Value → Nat → World → Prop) : Prop where
 set : ∀ (p : Value) (hi : Nat) (W : World) (C o : Nat) (x : Value), G p hi W → lo ≤ C → C < hi → G p hi (W.setCell ⟨C, o, none⟩ x)
 below : ∀ (p : Value) (hi : Nat) (W W' : World), G p hi W → Below W.heap.size W W' → G p hi W'
 mono : ∀ (p : Value) (hi hi' : Nat) (W : World), G p hi W → hi' ≤ hi → G p hi' W
theorem Ep (T : TypeId) (M : Nat) (p : Value) (lo : Nat) (G : Value → Nat → World → Prop) (hG : GC lo G) (a' : AS) (w : World) (hT : uT T)
  (IL : ∀ v w, (method 367 T v "Next").run Tryz.prog w = .ok (M, v) w) (hent : ∀ args w, (callFunc M args).run Tryz.prog w = .ok (.enter M args) w)
  (hcall : ∀ W, Below w.heap.size w W → Calls Tryz.prog M #[p, (.agg #[.int .i64 (G0).v, .int .u32 (G0).r, .int .u32 (G0).f, .bool (G0).k])] W fun e W' => ∃ p' : Value, e = .returned (.tuple #[.iface T p', (Gf a'), .bool false]) ∧ G p' W.heap.size W' ∧ Below W.heap.size W W') (hlo : lo ≤ w.heap.size) :
  Calls Tryz.prog 66 #[.iface T p] w fun e w' => ∃ p' : Value, e = .returned (.agg #[.iface T p', (.func (Fn.method "Next") #[.iface T p'] #[]), .int .i64 (a').o, .int .i64 (a').l, .int .i64 (a').v, .int .u32 (a').r, .int .u32 (a').f, .int .i64 (a').v2, .int .u32 (a').r2, .int .u32 (a').f2, .slice none 0 0]) ∧ G p' w.heap.size w' ∧ Below w.heap.size w w' := by
 have HT := aa hT;obtain ⟨h1, h2, _⟩ := hT;have uS := aa hcall;clear hcall;go_enter Tryz.func66, Tryz.ntmps66;go_wp2_with fail;refine (uS.out _ ae).mono ?_;rintro e w1 ⟨p', rfl, Nb, hb1⟩;have Dd := aa Nb;clear Nb;obtain ⟨ar, aA, hs1⟩ := bC hb1; (try simp at hs1); have hz1 := zL w.heap.size w1;go_wp2_with fail;refine (De T p' _ _ A0 a' _ _ _ _ HT.out).mono ?_;rintro e w2 ⟨rfl, hb2⟩;obtain ⟨aH, aL, hs2⟩ := bC hb2; (try simp at hs2); have hz2 := zL w.heap.size w2;have t0 := cE w2 w.heap.size 0 .nilIface;have t1 := cE w2 w.heap.size 1 .nilFunc;have t2 := cI w2 w.heap.size 2 0;have t3 := cI w2 w.heap.size 3 0;have t4 := cI w2 w.heap.size 4 0;have t5 := cE w2 w.heap.size 5 (.int .u32 0);have t6 := cE w2 w.heap.size 6 (.int .u32 0);have t7 := cI w2 w.heap.size 7 0;have t8 := cE w2 w.heap.size 8 (.int .u32 0);have t9 := cE w2 w.heap.size 9 (.int .u32 0);have Df := cE w2 w.heap.size 10 (.slice none 0 0);have hB1 : Below w.heap.size w w2 := ae;have pj := aa (hG.below _ _ _ _ Dd.out hb2);clear hb1 hb2
 go_wp2
 refine bodyPost_ret (v := (.agg #[.iface T p', (.func (Fn.method "Next") #[.iface T p'] #[]), .int .i64 (a').o, .int .i64 (a').l, .int .i64 (a').v, .int .u32 (a').r, .int .u32 (a').f, .int .i64 (a').v2, .int .u32 (a').r2, .int .u32 (a').f2, .slice none 0 0])) (by simp [results, Tryz.results66, go_sem, t0, t1, t2, t3, t4, t5, t6, t7, t8, t9, Df]) rfl ⟨p', rfl, ?_, ae⟩;refine hG.mono _ (w.heap.size + 1) _ _ ?_ oM
 (repeat' with_reducible refine hG.set _ _ _ _ _ _ ?_ ?_ ?_) <;> first
  | exact hG.mono _ _ _ _ pj.out (by (try simp); (try omega))
  | exact hlo
  | exact Nat.lt_succ_self _
theorem zo (T : TypeId) (M : Nat) (p : Value) (lo : Nat) (G : Value → Nat → World → Prop) (hG : GC lo G) (a' : AS) (w : World) (hT : uT T)
  (IL : ∀ v w, (method 367 T v "Next").run Tryz.prog w = .ok (M, v) w) (hent : ∀ args w, (callFunc M args).run Tryz.prog w = .ok (.enter M args) w)
  (hcall : ∀ W, Below w.heap.size w W → Calls Tryz.prog M #[p, (.agg #[.int .i64 (G0).v, .int .u32 (G0).r, .int .u32 (G0).f, .bool (G0).k])] W fun e W' => ∃ p' : Value, e = .returned (.tuple #[.iface T p', (Gf a'), .bool true]) ∧ G p' W.heap.size W' ∧ Below W.heap.size W W') (hlo : lo ≤ w.heap.size) :
  Calls Tryz.prog 66 #[.iface T p] w fun e w' => ∃ p' : Value, e = .returned (.agg #[.iface T p', .nilFunc, .int .i64 (A0).o, .int .i64 (A0).l, .int .i64 (A0).v, .int .u32 (A0).r, .int .u32 (A0).f, .int .i64 (A0).v2, .int .u32 (A0).r2, .int .u32 (A0).f2, .slice none 0 0]) ∧ G p' w.heap.size w' ∧ Below w.heap.size w w' := by
 have HT := aa hT;obtain ⟨h1, h2, _⟩ := hT;have uS := aa hcall;clear hcall;go_enter Tryz.func66, Tryz.ntmps66;go_wp2_with fail;refine (uS.out _ ae).mono ?_;rintro e w1 ⟨p', rfl, Nb, hb1⟩;have Dd := aa Nb;clear Nb;obtain ⟨ar, aA, hs1⟩ := bC hb1; (try simp at hs1); have hz1 := zL w.heap.size w1;go_wp2_with fail;refine (vY T p' _ _ A0 a' _ _ _ _ HT.out).mono ?_;rintro e w2 ⟨rfl, hb2⟩;obtain ⟨aH, aL, hs2⟩ := bC hb2; (try simp at hs2); have hz2 := zL w.heap.size w2;have t0 := cE w2 w.heap.size 0 .nilIface;have t1 := cE w2 w.heap.size 1 .nilFunc;have t2 := cI w2 w.heap.size 2 0;have t3 := cI w2 w.heap.size 3 0;have t4 := cI w2 w.heap.size 4 0;have t5 := cE w2 w.heap.size 5 (.int .u32 0);have t6 := cE w2 w.heap.size 6 (.int .u32 0);have t7 := cI w2 w.heap.size 7 0;have t8 := cE w2 w.heap.size 8 (.int .u32 0);have t9 := cE w2 w.heap.size 9 (.int .u32 0);have Df := cE w2 w.heap.size 10 (.slice none 0 0);have hB1 : Below w.heap.size w w2 := ae;have pj := aa (hG.below _ _ _ _ Dd.out hb2);clear hb1 hb2
 go_wp2
 refine bodyPost_ret (v := (.agg #[.iface T p', .nilFunc, .int .i64 (A0).o, .int .i64 (A0).l, .int .i64 (A0).v, .int .u32 (A0).r, .int .u32 (A0).f, .int .i64 (A0).v2, .int .u32 (A0).r2, .int .u32 (A0).f2, .slice none 0 0])) (by simp [results, Tryz.results66, go_sem, t0, t1, t2, t3, t4, t5, t6, t7, t8, t9, Df]) rfl ⟨p', rfl, ?_, ae⟩;refine hG.mono _ (w.heap.size + 1) _ _ ?_ oM
 (repeat' with_reducible refine hG.set _ _ _ _ _ _ ?_ ?_ ?_) <;> first
  | exact hG.mono _ _ _ _ pj.out (by (try simp); (try omega))
  | exact hlo
  | exact Nat.lt_succ_self _
theorem Jm (T : TypeId) (M : Nat) (p c0 : Value) (lo : Nat) (G : Value → Nat → World → Prop) (hG : GC lo G) (a a' : AS) (g : GS) (A : Option Addr) (m cp : Nat) (w : World) (hT : uT T)
  (IL : ∀ v w, (method 367 T v "Next").run Tryz.prog w = .ok (M, v) w) (hent : ∀ args w, (callFunc M args).run Tryz.prog w = .ok (.enter M args) w)
  (hm : m ≤ 1000000) (xs : List Value) (hg : dX w A m cp xs)
  (hcall : ∀ W, Below w.heap.size w W → Calls Tryz.prog M #[p, (.agg #[.int .i64 (g).v, .int .u32 (g).r, .int .u32 (g).f, .bool (g).k])] W fun e W' => ∃ p' : Value, e = .returned (.tuple #[.iface T p', (Gf a'), .bool false]) ∧ G p' W.heap.size W' ∧ Below W.heap.size W W') (hlo : lo ≤ w.heap.size) :
  Calls Tryz.prog 90 #[(.agg #[c0, (.func (Fn.method "Next") #[.iface T p] #[]), .int .i64 (a).o, .int .i64 (a).l, .int .i64 (a).v, .int .u32 (a).r, .int .u32 (a).f, .int .i64 (a).v2, .int .u32 (a).r2, .int .u32 (a).f2, .slice A m cp]), (.agg #[.int .i64 (g).v, .int .u32 (g).r, .int .u32 (g).f, .bool (g).k])] w fun e w' => ∃ (p' : Value) (A' : Option Addr) (qm : Nat), e = .returned (.agg #[.iface T p', (.func (Fn.method "Next") #[.iface T p'] #[]), .int .i64 (a').o, .int .i64 (a').l, .int .i64 (a').v, .int .u32 (a').r, .int .u32 (a').f, .int .i64 (a').v2, .int .u32 (a').r2, .int .u32 (a').f2, .slice A' (m + 1) qm]) ∧ G p' w.heap.size w' ∧ dX w' A' (m + 1) qm (xs ++ uw g) ∧ UQ w A' ∧ Below w.heap.size w w' := by
 obtain ⟨i0, hi, fF, fw, fD⟩ := info_parts zV;obtain ⟨hmc, hA, hr⟩ := hg;have uS := aa hcall;have Hr := aa hr;have HA := aa hA;have HT := aa hT;clear hcall hr hA hT;go_enter Tryz.func90, Tryz.ntmps90;go_wp2_with fail;refine (sH T p c0 a A m cp _).mono ?_;rintro e w1 ⟨rfl, hb1⟩;obtain ⟨ar, aA, hs1⟩ := bC hb1; (try simp at hs1); have hz1 := zL w.heap.size w1;have hz2 := zL (w.heap.size + 1) w1;have hz3 := zL (w.heap.size + 1 + 1) w1;have hB1 : Below w.heap.size w w1 := ae;have b0 : w1.cell? ⟨w.heap.size, 0, none⟩ = some c0 := by go_simp
 have b1 := cE w1 w.heap.size 1 (.func (Fn.method "Next") #[.iface T p] #[]);have b2 := cI w1 w.heap.size 2 a.o;have b3 := cI w1 w.heap.size 3 a.l;have b4 := cI w1 w.heap.size 4 a.v;have b5 := cE w1 w.heap.size 5 (.int .u32 a.r);have b6 := cE w1 w.heap.size 6 (.int .u32 a.f);have b7 := cI w1 w.heap.size 7 a.v2;have b8 := cE w1 w.heap.size 8 (.int .u32 a.r2);have b9 := cE w1 w.heap.size 9 (.int .u32 a.f2);have b10 := cE w1 w.heap.size 10 (.slice A m cp);have g0 := cI w1 (w.heap.size + 1) 0 g.v;have g1 := cE w1 (w.heap.size + 1) 1 (.int .u32 g.r);have g2 := cE w1 (w.heap.size + 1) 2 (.int .u32 g.f);have g3 := cE w1 (w.heap.size + 1) 3 (.bool g.k);have KZ : w1.frozen? ⟨w.heap.size, 10, none⟩ = false := by rw [aA _ _ (by simp <;> omega)]; go_simp
 have t0 := cE w1 (w.heap.size + 1 + 1) 0 .nilIface;have t1 := cE w1 (w.heap.size + 1 + 1) 1 .nilFunc;have t2 := cI w1 (w.heap.size + 1 + 1) 2 0;have t3 := cI w1 (w.heap.size + 1 + 1) 3 0;have t4 := cI w1 (w.heap.size + 1 + 1) 4 0;have t5 := cE w1 (w.heap.size + 1 + 1) 5 (.int .u32 0);have t6 := cE w1 (w.heap.size + 1 + 1) 6 (.int .u32 0);have t7 := cI w1 (w.heap.size + 1 + 1) 7 0;have t8 := cE w1 (w.heap.size + 1 + 1) 8 (.int .u32 0);have t9 := cE w1 (w.heap.size + 1 + 1) 9 (.int .u32 0);have Df := cE w1 (w.heap.size + 1 + 1) 10 (.slice none 0 0);have p0 : ∀ o, w1.frozen? ⟨w.heap.size + 1 + 1, o, none⟩ = false := fun o => by rw [aA _ _ (by simp <;> omega)]; exact World.frozen?_alloc_at _ _ _ _ sM
 have hr1 := Hr.out.below hB1;have QH := aa hr1;clear ar aA hb1 hr1;go_upto_region 4 with fail
 go_cut [5] (fun s5 wx => ∃ qm : Nat, s5 = (.func (Fn.method "Next") #[.iface T p] #[]) ∧ (wx.cell? ⟨w.heap.size, 0, none⟩ = some (c0) ∧ wx.cell? ⟨w.heap.size, 1, none⟩ = some ((.func (Fn.method "Next") #[.iface T p] #[])) ∧ wx.cell? ⟨w.heap.size, 2, none⟩ = some (.int .i64 a.o) ∧ wx.cell? ⟨w.heap.size, 3, none⟩ = some (.int .i64 a.l) ∧ wx.cell? ⟨w.heap.size, 4, none⟩ = some (.int .i64 a.v) ∧ wx.cell? ⟨w.heap.size, 5, none⟩ = some (.int .u32 a.r) ∧ wx.cell? ⟨w.heap.size, 6, none⟩ = some (.int .u32 a.f) ∧ wx.cell? ⟨w.heap.size, 7, none⟩ = some (.int .i64 a.v2) ∧ wx.cell? ⟨w.heap.size, 8, none⟩ = some (.int .u32 a.r2) ∧ wx.cell? ⟨w.heap.size, 9, none⟩ = some (.int .u32 a.f2) ∧ wx.cell? ⟨w.heap.size, 10, none⟩ = some (.slice (some ⟨w1.heap.size + 1, 0, none⟩) (m + 1) qm) ∧ wx.cell? ⟨w.heap.size + 1, 0, none⟩ = some (.int .i64 g.v) ∧ wx.cell? ⟨w.heap.size + 1, 1, none⟩ = some (.int .u32 g.r) ∧ wx.cell? ⟨w.heap.size + 1, 2, none⟩ = some (.int .u32 g.f) ∧ wx.cell? ⟨w.heap.size + 1, 3, none⟩ = some (.bool g.k)) ∧ (wx.cell? ⟨w.heap.size + 1 + 1, 0, none⟩ = some (.nilIface) ∧ wx.cell? ⟨w.heap.size + 1 + 1, 1, none⟩ = some (.nilFunc) ∧ wx.cell? ⟨w.heap.size + 1 + 1, 2, none⟩ = some (.int .i64 0) ∧ wx.cell? ⟨w.heap.size + 1 + 1, 3, none⟩ = some (.int .i64 0) ∧ wx.cell? ⟨w.heap.size + 1 + 1, 4, none⟩ = some (.int .i64 0) ∧ wx.cell? ⟨w.heap.size + 1 + 1, 5, none⟩ = some (.int .u32 0) ∧ wx.cell? ⟨w.heap.size + 1 + 1, 6, none⟩ = some (.int .u32 0) ∧ wx.cell? ⟨w.heap.size + 1 + 1, 7, none⟩ = some (.int .i64 0) ∧ wx.cell? ⟨w.heap.size + 1 + 1, 8, none⟩ = some (.int .u32 0) ∧ wx.cell? ⟨w.heap.size + 1 + 1, 9, none⟩ = some (.int .u32 0) ∧ wx.cell? ⟨w.heap.size + 1 + 1, 10, none⟩ = some (.slice none 0 0)) ∧ (∀ o, wx.frozen? ⟨w.heap.size + 1 + 1, o, none⟩ = false) ∧ Below w.heap.size w wx ∧ w.heap.size + 1 + 1 < wx.heap.size ∧ (Rd wx wx.heap.size 4 (some ⟨w1.heap.size + 1, 0, none⟩) (m + 1) (xs ++ uw g)) ∧ m + 1 ≤ qm)
 case first =>
  exact UN
 case rest =>
  obtain ⟨qm, rfl, ⟨s0, s1, s2, s3, s4, s5, s6, s7, s8, s9, Q9, Q8, s12, s13, s14⟩, ⟨t0, t1, t2, t3, t4, t5, t6, t7, t8, t9, Df⟩, p0', hB2, lF, oJ, hcp⟩ := hcut;have Oc := zL w.heap.size wc;have Ob := zL (w.heap.size + 1) wc;go_wp2_with fail
  go_region_held3 (fun w' => w'.cell? ⟨w.heap.size, 0, none⟩ = some (c0) ∧ w'.cell? ⟨w.heap.size, 1, none⟩ = some ((.func (Fn.method "Next") #[.iface T p] #[])) ∧ w'.cell? ⟨w.heap.size, 2, none⟩ = some (.int .i64 a.o) ∧ w'.cell? ⟨w.heap.size, 3, none⟩ = some (.int .i64 a.l) ∧ w'.cell? ⟨w.heap.size, 4, none⟩ = some (.int .i64 a.v) ∧ w'.cell? ⟨w.heap.size, 5, none⟩ = some (.int .u32 a.r) ∧ w'.cell? ⟨w.heap.size, 6, none⟩ = some (.int .u32 a.f) ∧ w'.cell? ⟨w.heap.size, 7, none⟩ = some (.int .i64 a.v2) ∧ w'.cell? ⟨w.heap.size, 8, none⟩ = some (.int .u32 a.r2) ∧ w'.cell? ⟨w.heap.size, 9, none⟩ = some (.int .u32 a.f2) ∧ w'.cell? ⟨w.heap.size, 10, none⟩ = some (.slice (some ⟨w1.heap.size + 1, 0, none⟩) (m + 1) qm) ∧ w'.cell? ⟨w.heap.size + 1, 0, none⟩ = some (.int .i64 g.v) ∧ w'.cell? ⟨w.heap.size + 1, 1, none⟩ = some (.int .u32 g.r) ∧ w'.cell? ⟨w.heap.size + 1, 2, none⟩ = some (.int .u32 g.f) ∧ w'.cell? ⟨w.heap.size + 1, 3, none⟩ = some (.bool g.k))
   (first | exact ⟨by go_simp, by go_simp, by go_simp, by go_simp, by go_simp, by go_simp, by go_simp, by go_simp, by go_simp, by go_simp, by go_simp, by go_simp, by go_simp, by go_simp, by go_simp⟩ | go_keep)
   (first
    | (with_reducible refine (uS.out _ ae).mono ?_; rintro e w4 ⟨p', rfl, hG4, dy⟩; have Ea := aa hG4; clear hG4; have hb4 : Below _ _ w4 := nV; clear dy; obtain ⟨eB, fZ, hs4⟩ := bC hb4; have zX := zL w.heap.size w4; have Qj := zL (w.heap.size + 1) w4; have N8 := zL (w.heap.size + 1 + 1) w4)
    | (go_at_call 78; refine (De T p' _ _ a a' _ _ _ _ HT.out).mono ?_; rintro e w5 ⟨rfl, bU⟩; have hb5 : Below _ _ w5 := jM; clear bU; obtain ⟨bX, cw, hs5⟩ := bC hb5; have yQ := zL w.heap.size w5; have E5 := zL (w.heap.size + 1) w5; have Iw := zL (w.heap.size + 1 + 1) w5))
  all_goals have y0 := cE w5 (w.heap.size + 1 + 1) 0 .nilIface
  all_goals have y1 := cE w5 (w.heap.size + 1 + 1) 1 .nilFunc
  all_goals have y2 := cI w5 (w.heap.size + 1 + 1) 2 0
  all_goals have y3 := cI w5 (w.heap.size + 1 + 1) 3 0
  all_goals have y4 := cI w5 (w.heap.size + 1 + 1) 4 0
  all_goals have y5 := cE w5 (w.heap.size + 1 + 1) 5 (.int .u32 0)
  all_goals have y6 := cE w5 (w.heap.size + 1 + 1) 6 (.int .u32 0)
  all_goals have y7 := cI w5 (w.heap.size + 1 + 1) 7 0
  all_goals have y8 := cE w5 (w.heap.size + 1 + 1) 8 (.int .u32 0)
  all_goals have y9 := cE w5 (w.heap.size + 1 + 1) 9 (.int .u32 0)
  all_goals have Xc := cE w5 (w.heap.size + 1 + 1) 10 (.slice none 0 0)
  all_goals have hbf : Below w.heap.size w w5 := (hB2.trans (hb4.mono oM)).trans (hb5.mono oM)
  all_goals have Gj := aa (hG.below _ _ _ _ Ea.out hb5)
  all_goals clear eB fZ bX cw
  all_goals go_wp2
  all_goals have Om := zL (w.heap.size + 1 + 1) wc
  all_goals refine bodyPost_ret (v := (.agg #[.iface T p', (.func (Fn.method "Next") #[.iface T p'] #[]), .int .i64 (a').o, .int .i64 (a').l, .int .i64 (a').v, .int .u32 (a').r, .int .u32 (a').f, .int .i64 (a').v2, .int .u32 (a').r2, .int .u32 (a').f2, .slice (some ⟨w1.heap.size + 1, 0, none⟩) (m + 1) qm])) (by simp [results, Tryz.results90, go_sem, y0, y1, y2, y3, y4, y5, y6, y7, y8, y9, Xc]) rfl ⟨p', some ⟨w1.heap.size + 1, 0, none⟩, qm, rfl, ?_, ⟨hcp, (fun e => by cases e), ?_⟩, (fun b off e => by injection e with e; injection e with e _; omega), ae⟩
  ·refine hG.mono _ wc.heap.size _ _ ?_ oM
   (repeat' with_reducible refine hG.set _ _ _ _ _ _ ?_ ?_ ?_) <;> first
    | exact hG.mono _ _ _ _ Gj.out (by (try simp); (try omega))
    | exact Nat.le_trans hlo oM
    | exact Om
  all_goals have gm := oJ
  all_goals have Fq := (gm.below (hb4.trans (hb5.mono hs4))).more (show wc.heap.size ≤ w5.heap.size by omega)
  all_goals (repeat' with_reducible refine Rd.set_far ?_ oM _)
  all_goals exact Rd.more Fq sM
theorem CF (T : TypeId) (M : Nat) (p c0 : Value) (lo : Nat) (G : Value → Nat → World → Prop) (hG : GC lo G) (a a' : AS) (g : GS) (A : Option Addr) (m cp : Nat) (w : World) (hT : uT T)
  (IL : ∀ v w, (method 367 T v "Next").run Tryz.prog w = .ok (M, v) w) (hent : ∀ args w, (callFunc M args).run Tryz.prog w = .ok (.enter M args) w)
  (hm : m ≤ 1000000) (xs : List Value) (hg : dX w A m cp xs)
  (hcall : ∀ W, Below w.heap.size w W → Calls Tryz.prog M #[p, (.agg #[.int .i64 (g).v, .int .u32 (g).r, .int .u32 (g).f, .bool (g).k])] W fun e W' => ∃ p' : Value, e = .returned (.tuple #[.iface T p', (Gf a'), .bool true]) ∧ G p' W.heap.size W' ∧ Below W.heap.size W W') (hlo : lo ≤ w.heap.size) :
  Calls Tryz.prog 90 #[(.agg #[c0, (.func (Fn.method "Next") #[.iface T p] #[]), .int .i64 (a).o, .int .i64 (a).l, .int .i64 (a).v, .int .u32 (a).r, .int .u32 (a).f, .int .i64 (a).v2, .int .u32 (a).r2, .int .u32 (a).f2, .slice A m cp]), (.agg #[.int .i64 (g).v, .int .u32 (g).r, .int .u32 (g).f, .bool (g).k])] w fun e w' => ∃ (p' : Value) (A' : Option Addr) (qm : Nat), e = .returned (.agg #[.iface T p', .nilFunc, .int .i64 (A0).o, .int .i64 (A0).l, .int .i64 (A0).v, .int .u32 (A0).r, .int .u32 (A0).f, .int .i64 (A0).v2, .int .u32 (A0).r2, .int .u32 (A0).f2, .slice A' (m + 1) qm]) ∧ G p' w.heap.size w' ∧ dX w' A' (m + 1) qm (xs ++ uw g) ∧ UQ w A' ∧ Below w.heap.size w w' := by
 obtain ⟨i0, hi, fF, fw, fD⟩ := info_parts zV;obtain ⟨hmc, hA, hr⟩ := hg;have uS := aa hcall;have Hr := aa hr;have HA := aa hA;have HT := aa hT;clear hcall hr hA hT;go_enter Tryz.func90, Tryz.ntmps90;go_wp2_with fail;refine (sH T p c0 a A m cp _).mono ?_;rintro e w1 ⟨rfl, hb1⟩;obtain ⟨ar, aA, hs1⟩ := bC hb1; (try simp at hs1); have hz1 := zL w.heap.size w1;have hz2 := zL (w.heap.size + 1) w1;have hz3 := zL (w.heap.size + 1 + 1) w1;have hB1 : Below w.heap.size w w1 := ae;have b0 : w1.cell? ⟨w.heap.size, 0, none⟩ = some c0 := by go_simp
 have b1 := cE w1 w.heap.size 1 (.func (Fn.method "Next") #[.iface T p] #[]);have b2 := cI w1 w.heap.size 2 a.o;have b3 := cI w1 w.heap.size 3 a.l;have b4 := cI w1 w.heap.size 4 a.v;have b5 := cE w1 w.heap.size 5 (.int .u32 a.r);have b6 := cE w1 w.heap.size 6 (.int .u32 a.f);have b7 := cI w1 w.heap.size 7 a.v2;have b8 := cE w1 w.heap.size 8 (.int .u32 a.r2);have b9 := cE w1 w.heap.size 9 (.int .u32 a.f2);have b10 := cE w1 w.heap.size 10 (.slice A m cp);have g0 := cI w1 (w.heap.size + 1) 0 g.v;have g1 := cE w1 (w.heap.size + 1) 1 (.int .u32 g.r);have g2 := cE w1 (w.heap.size + 1) 2 (.int .u32 g.f);have g3 := cE w1 (w.heap.size + 1) 3 (.bool g.k);have KZ : w1.frozen? ⟨w.heap.size, 10, none⟩ = false := by rw [aA _ _ (by simp <;> omega)]; go_simp
 have t0 := cE w1 (w.heap.size + 1 + 1) 0 .nilIface;have t1 := cE w1 (w.heap.size + 1 + 1) 1 .nilFunc;have t2 := cI w1 (w.heap.size + 1 + 1) 2 0;have t3 := cI w1 (w.heap.size + 1 + 1) 3 0;have t4 := cI w1 (w.heap.size + 1 + 1) 4 0;have t5 := cE w1 (w.heap.size + 1 + 1) 5 (.int .u32 0);have t6 := cE w1 (w.heap.size + 1 + 1) 6 (.int .u32 0);have t7 := cI w1 (w.heap.size + 1 + 1) 7 0;have t8 := cE w1 (w.heap.size + 1 + 1) 8 (.int .u32 0);have t9 := cE w1 (w.heap.size + 1 + 1) 9 (.int .u32 0);have Df := cE w1 (w.heap.size + 1 + 1) 10 (.slice none 0 0);have p0 : ∀ o, w1.frozen? ⟨w.heap.size + 1 + 1, o, none⟩ = false := fun o => by rw [aA _ _ (by simp <;> omega)]; exact World.frozen?_alloc_at _ _ _ _ sM
 have hr1 := Hr.out.below hB1;have QH := aa hr1;clear ar aA hb1 hr1;go_upto_region 4 with fail
 go_cut [5] (fun s5 wx => ∃ qm : Nat, s5 = (.func (Fn.method "Next") #[.iface T p] #[]) ∧ (wx.cell? ⟨w.heap.size, 0, none⟩ = some (c0) ∧ wx.cell? ⟨w.heap.size, 1, none⟩ = some ((.func (Fn.method "Next") #[.iface T p] #[])) ∧ wx.cell? ⟨w.heap.size, 2, none⟩ = some (.int .i64 a.o) ∧ wx.cell? ⟨w.heap.size, 3, none⟩ = some (.int .i64 a.l) ∧ wx.cell? ⟨w.heap.size, 4, none⟩ = some (.int .i64 a.v) ∧ wx.cell? ⟨w.heap.size, 5, none⟩ = some (.int .u32 a.r) ∧ wx.cell? ⟨w.heap.size, 6, none⟩ = some (.int .u32 a.f) ∧ wx.cell? ⟨w.heap.size, 7, none⟩ = some (.int .i64 a.v2) ∧ wx.cell? ⟨w.heap.size, 8, none⟩ = some (.int .u32 a.r2) ∧ wx.cell? ⟨w.heap.size, 9, none⟩ = some (.int .u32 a.f2) ∧ wx.cell? ⟨w.heap.size, 10, none⟩ = some (.slice (some ⟨w1.heap.size + 1, 0, none⟩) (m + 1) qm) ∧ wx.cell? ⟨w.heap.size + 1, 0, none⟩ = some (.int .i64 g.v) ∧ wx.cell? ⟨w.heap.size + 1, 1, none⟩ = some (.int .u32 g.r) ∧ wx.cell? ⟨w.heap.size + 1, 2, none⟩ = some (.int .u32 g.f) ∧ wx.cell? ⟨w.heap.size + 1, 3, none⟩ = some (.bool g.k)) ∧ (wx.cell? ⟨w.heap.size + 1 + 1, 0, none⟩ = some (.nilIface) ∧ wx.cell? ⟨w.heap.size + 1 + 1, 1, none⟩ = some (.nilFunc) ∧ wx.cell? ⟨w.heap.size + 1 + 1, 2, none⟩ = some (.int .i64 0) ∧ wx.cell? ⟨w.heap.size + 1 + 1, 3, none⟩ = some (.int .i64 0) ∧ wx.cell? ⟨w.heap.size + 1 + 1, 4, none⟩ = some (.int .i64 0) ∧ wx.cell? ⟨w.heap.size + 1 + 1, 5, none⟩ = some (.int .u32 0) ∧ wx.cell? ⟨w.heap.size + 1 + 1, 6, none⟩ = some (.int .u32 0) ∧ wx.cell? ⟨w.heap.size + 1 + 1, 7, none⟩ = some (.int .i64 0) ∧ wx.cell? ⟨w.heap.size + 1 + 1, 8, none⟩ = some (.int .u32 0) ∧ wx.cell? ⟨w.heap.size + 1 + 1, 9, none⟩ = some (.int .u32 0) ∧ wx.cell? ⟨w.heap.size + 1 + 1, 10, none⟩ = some (.slice none 0 0)) ∧ (∀ o, wx.frozen? ⟨w.heap.size + 1 + 1, o, none⟩ = false) ∧ Below w.heap.size w wx ∧ w.heap.size + 1 + 1 < wx.heap.size ∧ (Rd wx wx.heap.size 4 (some ⟨w1.heap.size + 1, 0, none⟩) (m + 1) (xs ++ uw g)) ∧ m + 1 ≤ qm)
 case first =>
  exact UN
 case rest =>
  obtain ⟨qm, rfl, ⟨s0, s1, s2, s3, s4, s5, s6, s7, s8, s9, Q9, Q8, s12, s13, s14⟩, ⟨t0, t1, t2, t3, t4, t5, t6, t7, t8, t9, Df⟩, p0', hB2, lF, oJ, hcp⟩ := hcut;have Oc := zL w.heap.size wc;have Ob := zL (w.heap.size + 1) wc;go_wp2_with fail
  go_region_held3 (fun w' => w'.cell? ⟨w.heap.size, 0, none⟩ = some (c0) ∧ w'.cell? ⟨w.heap.size, 1, none⟩ = some ((.func (Fn.method "Next") #[.iface T p] #[])) ∧ w'.cell? ⟨w.heap.size, 2, none⟩ = some (.int .i64 a.o) ∧ w'.cell? ⟨w.heap.size, 3, none⟩ = some (.int .i64 a.l) ∧ w'.cell? ⟨w.heap.size, 4, none⟩ = some (.int .i64 a.v) ∧ w'.cell? ⟨w.heap.size, 5, none⟩ = some (.int .u32 a.r) ∧ w'.cell? ⟨w.heap.size, 6, none⟩ = some (.int .u32 a.f) ∧ w'.cell? ⟨w.heap.size, 7, none⟩ = some (.int .i64 a.v2) ∧ w'.cell? ⟨w.heap.size, 8, none⟩ = some (.int .u32 a.r2) ∧ w'.cell? ⟨w.heap.size, 9, none⟩ = some (.int .u32 a.f2) ∧ w'.cell? ⟨w.heap.size, 10, none⟩ = some (.slice (some ⟨w1.heap.size + 1, 0, none⟩) (m + 1) qm) ∧ w'.cell? ⟨w.heap.size + 1, 0, none⟩ = some (.int .i64 g.v) ∧ w'.cell? ⟨w.heap.size + 1, 1, none⟩ = some (.int .u32 g.r) ∧ w'.cell? ⟨w.heap.size + 1, 2, none⟩ = some (.int .u32 g.f) ∧ w'.cell? ⟨w.heap.size + 1, 3, none⟩ = some (.bool g.k))
   (first | exact ⟨by go_simp, by go_simp, by go_simp, by go_simp, by go_simp, by go_simp, by go_simp, by go_simp, by go_simp, by go_simp, by go_simp, by go_simp, by go_simp, by go_simp, by go_simp⟩ | go_keep)
   (first
    | (with_reducible refine (uS.out _ ae).mono ?_; rintro e w4 ⟨p', rfl, hG4, dy⟩; have Ea := aa hG4; clear hG4; have hb4 : Below _ _ w4 := nV; clear dy; obtain ⟨eB, fZ, hs4⟩ := bC hb4; have zX := zL w.heap.size w4; have Qj := zL (w.heap.size + 1) w4; have N8 := zL (w.heap.size + 1 + 1) w4)
    | (go_at_call 78; refine (vY T p' _ _ a a' _ _ _ _ HT.out).mono ?_; rintro e w5 ⟨rfl, bU⟩; have hb5 : Below _ _ w5 := jM; clear bU; obtain ⟨bX, cw, hs5⟩ := bC hb5; have yQ := zL w.heap.size w5; have E5 := zL (w.heap.size + 1) w5; have Iw := zL (w.heap.size + 1 + 1) w5))
  all_goals have y0 := cE w5 (w.heap.size + 1 + 1) 0 .nilIface
  all_goals have y1 := cE w5 (w.heap.size + 1 + 1) 1 .nilFunc
  all_goals have y2 := cI w5 (w.heap.size + 1 + 1) 2 0
  all_goals have y3 := cI w5 (w.heap.size + 1 + 1) 3 0
  all_goals have y4 := cI w5 (w.heap.size + 1 + 1) 4 0
  all_goals have y5 := cE w5 (w.heap.size + 1 + 1) 5 (.int .u32 0)
  all_goals have y6 := cE w5 (w.heap.size + 1 + 1) 6 (.int .u32 0)
  all_goals have y7 := cI w5 (w.heap.size + 1 + 1) 7 0
  all_goals have y8 := cE w5 (w.heap.size + 1 + 1) 8 (.int .u32 0)
  all_goals have y9 := cE w5 (w.heap.size + 1 + 1) 9 (.int .u32 0)
  all_goals have Xc := cE w5 (w.heap.size + 1 + 1) 10 (.slice none 0 0)
  all_goals have hbf : Below w.heap.size w w5 := (hB2.trans (hb4.mono oM)).trans (hb5.mono oM)
  all_goals have Gj := aa (hG.below _ _ _ _ Ea.out hb5)
  all_goals clear eB fZ bX cw
  all_goals go_wp2
  all_goals have Om := zL (w.heap.size + 1 + 1) wc
  all_goals refine bodyPost_ret (v := (.agg #[.iface T p', .nilFunc, .int .i64 (A0).o, .int .i64 (A0).l, .int .i64 (A0).v, .int .u32 (A0).r, .int .u32 (A0).f, .int .i64 (A0).v2, .int .u32 (A0).r2, .int .u32 (A0).f2, .slice (some ⟨w1.heap.size + 1, 0, none⟩) (m + 1) qm])) (by simp [results, Tryz.results90, go_sem, y0, y1, y2, y3, y4, y5, y6, y7, y8, y9, Xc]) rfl ⟨p', some ⟨w1.heap.size + 1, 0, none⟩, qm, rfl, ?_, ⟨hcp, (fun e => by cases e), ?_⟩, (fun b off e => by injection e with e; injection e with e _; omega), ae⟩
  ·refine hG.mono _ wc.heap.size _ _ ?_ oM
   (repeat' with_reducible refine hG.set _ _ _ _ _ _ ?_ ?_ ?_) <;> first
    | exact hG.mono _ _ _ _ Gj.out (by (try simp); (try omega))
    | exact Nat.le_trans hlo oM
    | exact Om
  all_goals have gm := oJ
  all_goals have Fq := (gm.below (hb4.trans (hb5.mono hs4))).more (show wc.heap.size ≤ w5.heap.size by omega)
  all_goals (repeat' with_reducible refine Rd.set_far ?_ oM _)
  all_goals exact Rd.more Fq sM
end Go.Proofs.YtapjfhbonfehpaaGreatDoor
