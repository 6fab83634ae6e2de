/- Package task: Give and Start. -/
import Derived.Deep.RegionLaw
import Derived.Deep.DeepCutAuto
import Derived.Test.YtnnmenmifphadaaGreatDoorU10
import Derived.Test.YtnnmenmifphadaaGreatDoorU13
set_option linter.unusedSimpArgs false
set_option linter.unusedVariables false
set_option maxRecDepth 100000
set_option maxHeartbeats 40000000
namespace Go.Proofs.YtnnmenmifphadaaGreatDoor
open Go.RowKit
theorem info_got : (Tryz.prog.info? 99).map (fun i => (i.zero, i.size, i.bytes)) = some (some (.agg #[.int .i64 0, .int .u32 0, .int .u32 0, .bool false]), 4, 24) := by kernel_rfl
def GotsR (w : World) (A : Option Addr) (m cp : Nat) (xs : List Value) : Prop := m ≤ cp ∧ (A = none → m = 0) ∧ Rd w w.heap.size 4 A m xs
def NewB (w : World) (A : Option Addr) : Prop := ∀ b off, A = some ⟨b, off, none⟩ → w.heap.size ≤ b
theorem GotsR.below {w w' : World} {A : Option Addr} {m cp : Nat} {xs : List Value} (h : GotsR w A m cp xs) (hb : Below w.heap.size w w') : GotsR w' A m cp xs := by
 obtain ⟨h1, h2, h3⟩ := h
 exact ⟨h1, h2, (h3.below hb).more hb.size⟩
theorem abD9 {p : Prop} (h : p := by
 go_region_law (first
  | (refine step_append_new rfl (.tmp 13) (.tmp 15) 73 rfl 99 i0 _ 4 24 Tryz.underlying73 hi iz0 iz1 iz2 w.heap.size A m xs (by simp [Act.eval, Act.put]) (Hr1.out.below ab0) HA.out ⟨w1.heap.size, 0, none⟩ 1 [.int .i64 g.v, .int .u32 g.r, .int .u32 g.f, .bool g.k] (by simp [Act.eval, Act.put]) rfl ?_ (by unfold maxLen; omega) oM ?_; (focus (intro j u hu; match j, hu with | 0, hu => (simp at hu; subst hu; simp [Addr.add]) | 1, hu => (simp at hu; subst hu; simp [Addr.add]) | 2, hu => (simp at hu; subst hu; simp [Addr.add]) | 3, hu => (simp at hu; subst hu; simp [Addr.add]) | j + 4, hu => simp at hu)); intro cp' w2 hcp hrd2 hb2 hz3; obtain ⟨hcc2, hff2⟩ := bcell hb2)
  | (go_simp; go_at_call 114; refine (clip_any A m cp _ hmc).mono ?_; rintro e w3 ⟨rfl, rfl⟩))
 all_goals go_wp2_with fail
 all_goals go_meet
 all_goals have hx2 : w1.heap.size + 1 < w2.heap.size := (by have h := hz3; (try simp at h); omega)
 all_goals have hx1 : w1.heap.size < w2.heap.size := by omega
 all_goals have hb0 : Below w.heap.size w w2 := ab0
 all_goals have r10 : w2.cell? ⟨w.heap.size, 10, none⟩ = some (.slice A m cp) := by go_simp
 all_goals refine ⟨cp', rfl, ⟨by go_simp, by go_simp, by go_simp, by go_simp, by go_simp, by go_simp, by go_simp, by go_simp, by go_simp, by go_simp, by go_simp, by go_simp, by go_simp, by go_simp, by go_simp⟩, ⟨by go_simp, by go_simp, by go_simp, by go_simp, by go_simp, by go_simp, by go_simp, by go_simp, by go_simp, by go_simp, by go_simp⟩, fun o => ?_, ab0, by simp; omega, ?_, hcp.out⟩
 all_goals first
  | (rw [World.frozen?_setCell, hff2 _ _ (by simp <;> omega)]; go_simp; done)
  | skip
 all_goals have h7 := hrd2.out
 all_goals (try simp at h7)
 all_goals with_reducible refine Rd.set_far ?_ oM _
 all_goals exact Rd.more h7 sM) : p := h
theorem give_go (T : TypeId) (M : Nat) (p p' c0 : Value) (a a' : AS) (g : GS) (A : Option Addr) (m cp : Nat) (w : World) (hT : CodeT T)
  (hmeth : ∀ v w, (method 400 T v "Next").run Tryz.prog w = .ok (M, v) w) (hent : ∀ args w, (callFunc M args).run Tryz.prog w = .ok (.enter M args) w)
  (hm : m ≤ 1000) (xs : List Value) (hg : GotsR w A m cp xs)
  (hcall : ∀ W, Below w.heap.size w W → Calls Tryz.prog M #[p, (.agg #[.int .i64 (g).v, .int .u32 (g).r, .int .u32 (g).f, .bool (g).k])] W fun e W' => e = .returned (.tuple #[.iface T p', (acV a'), .bool false]) ∧ Below W.heap.size W W') :
  Calls Tryz.prog 67 #[(.agg #[c0, (.func (Fn.method "Next") #[.iface T p] #[]), .int .i64 (a).o, .int .i64 (a).l, .int .i64 (a).v, .int .u32 (a).r, .int .u32 (a).f, .int .i64 (a).v2, .int .u32 (a).r2, .int .u32 (a).f2, .slice A m cp]), (.agg #[.int .i64 (g).v, .int .u32 (g).r, .int .u32 (g).f, .bool (g).k])] w fun e w' => ∃ A' cp', e = .returned (.agg #[.iface T p', (.func (Fn.method "Next") #[.iface T p'] #[]), .int .i64 (a').o, .int .i64 (a').l, .int .i64 (a').v, .int .u32 (a').r, .int .u32 (a').f, .int .i64 (a').v2, .int .u32 (a').r2, .int .u32 (a').f2, .slice A' (m + 1) cp']) ∧ GotsR w' A' (m + 1) cp' (xs ++ gotc g) ∧ NewB w A' ∧ Below w.heap.size w w' := by
 obtain ⟨i0, hi, iz0, iz1, iz2⟩ := info_parts info_got
 obtain ⟨hmc, hA, hr⟩ := hg
 have Hcall := hide hcall
 have Hr := hide hr
 have HA := hide hA
 have HT := hide hT
 clear hcall hr hA hT
 go_enter Tryz.func67, Tryz.ntmps67
 go_wp2_with fail
 refine (done_no T p c0 a A m cp _).mono ?_
 rintro e w1 ⟨rfl, hb1⟩
 obtain ⟨hcc1, hff1, hs1⟩ := bC hb1; (try simp at hs1); have hz1 : w.heap.size < w1.heap.size := oM
 have hz2 : w.heap.size + 1 < w1.heap.size := by omega
 have hz3 : w.heap.size + 1 + 1 < w1.heap.size := by omega
 have hB1 : Below w.heap.size w w1 := ab0
 have b0 : w1.cell? ⟨w.heap.size, 0, none⟩ = some c0 := by go_simp
 have b1 : w1.cell? ⟨w.heap.size, 1, none⟩ = some (.func (Fn.method "Next") #[.iface T p] #[]) := by go_simp
 have b2 : w1.cell? ⟨w.heap.size, 2, none⟩ = some (.int .i64 a.o) := by go_simp
 have b3 : w1.cell? ⟨w.heap.size, 3, none⟩ = some (.int .i64 a.l) := by go_simp
 have b4 : w1.cell? ⟨w.heap.size, 4, none⟩ = some (.int .i64 a.v) := by go_simp
 have b5 : w1.cell? ⟨w.heap.size, 5, none⟩ = some (.int .u32 a.r) := by go_simp
 have b6 : w1.cell? ⟨w.heap.size, 6, none⟩ = some (.int .u32 a.f) := by go_simp
 have b7 : w1.cell? ⟨w.heap.size, 7, none⟩ = some (.int .i64 a.v2) := by go_simp
 have b8 : w1.cell? ⟨w.heap.size, 8, none⟩ = some (.int .u32 a.r2) := by go_simp
 have b9 : w1.cell? ⟨w.heap.size, 9, none⟩ = some (.int .u32 a.f2) := by go_simp
 have b10 : w1.cell? ⟨w.heap.size, 10, none⟩ = some (.slice A m cp) := by go_simp
 have g0 : w1.cell? ⟨w.heap.size + 1, 0, none⟩ = some (.int .i64 g.v) := by go_simp
 have g1 : w1.cell? ⟨w.heap.size + 1, 1, none⟩ = some (.int .u32 g.r) := by go_simp
 have g2 : w1.cell? ⟨w.heap.size + 1, 2, none⟩ = some (.int .u32 g.f) := by go_simp
 have g3 : w1.cell? ⟨w.heap.size + 1, 3, none⟩ = some (.bool g.k) := by go_simp
 have q10 : w1.frozen? ⟨w.heap.size, 10, none⟩ = false := by rw [hff1 _ _ (by simp <;> omega)]; go_simp
 have t0 : w1.cell? ⟨w.heap.size + 1 + 1, 0, none⟩ = some (.nilIface) := by go_simp
 have t1 : w1.cell? ⟨w.heap.size + 1 + 1, 1, none⟩ = some (.nilFunc) := by go_simp
 have t2 : w1.cell? ⟨w.heap.size + 1 + 1, 2, none⟩ = some (.int .i64 0) := by go_simp
 have t3 : w1.cell? ⟨w.heap.size + 1 + 1, 3, none⟩ = some (.int .i64 0) := by go_simp
 have t4 : w1.cell? ⟨w.heap.size + 1 + 1, 4, none⟩ = some (.int .i64 0) := by go_simp
 have t5 : w1.cell? ⟨w.heap.size + 1 + 1, 5, none⟩ = some (.int .u32 0) := by go_simp
 have t6 : w1.cell? ⟨w.heap.size + 1 + 1, 6, none⟩ = some (.int .u32 0) := by go_simp
 have t7 : w1.cell? ⟨w.heap.size + 1 + 1, 7, none⟩ = some (.int .i64 0) := by go_simp
 have t8 : w1.cell? ⟨w.heap.size + 1 + 1, 8, none⟩ = some (.int .u32 0) := by go_simp
 have t9 : w1.cell? ⟨w.heap.size + 1 + 1, 9, none⟩ = some (.int .u32 0) := by go_simp
 have t10 : w1.cell? ⟨w.heap.size + 1 + 1, 10, none⟩ = some (.slice none 0 0) := by go_simp
 have p0 : ∀ o, w1.frozen? ⟨w.heap.size + 1 + 1, o, none⟩ = false := fun o => by rw [hff1 _ _ (by simp <;> omega)]; exact World.frozen?_alloc_at _ _ _ _ sM
 have hr1 := Hr.out.below hB1
 have Hr1 := hide hr1
 clear hcc1 hff1 hb1 hr1
 go_upto_region 4 with fail
 go_cut [5] (fun s5 wx => ∃ cp' : Nat, s5 = (.func (Fn.method "Next") #[.iface T p] #[]) ∧ (wx.cell? ⟨w.heap.size, 0, none⟩ = some (c0) ∧ wx.cell? ⟨w.heap.size, 1, none⟩ = some ((.func (Fn.method "Next") #[.iface T p] #[])) ∧ wx.cell? ⟨w.heap.size, 2, none⟩ = some (.int .i64 a.o) ∧ wx.cell? ⟨w.heap.size, 3, none⟩ = some (.int .i64 a.l) ∧ wx.cell? ⟨w.heap.size, 4, none⟩ = some (.int .i64 a.v) ∧ wx.cell? ⟨w.heap.size, 5, none⟩ = some (.int .u32 a.r) ∧ wx.cell? ⟨w.heap.size, 6, none⟩ = some (.int .u32 a.f) ∧ wx.cell? ⟨w.heap.size, 7, none⟩ = some (.int .i64 a.v2) ∧ wx.cell? ⟨w.heap.size, 8, none⟩ = some (.int .u32 a.r2) ∧ wx.cell? ⟨w.heap.size, 9, none⟩ = some (.int .u32 a.f2) ∧ wx.cell? ⟨w.heap.size, 10, none⟩ = some (.slice (some ⟨w1.heap.size + 1, 0, none⟩) (m + 1) cp') ∧ wx.cell? ⟨w.heap.size + 1, 0, none⟩ = some (.int .i64 g.v) ∧ wx.cell? ⟨w.heap.size + 1, 1, none⟩ = some (.int .u32 g.r) ∧ wx.cell? ⟨w.heap.size + 1, 2, none⟩ = some (.int .u32 g.f) ∧ wx.cell? ⟨w.heap.size + 1, 3, none⟩ = some (.bool g.k)) ∧ (wx.cell? ⟨w.heap.size + 1 + 1, 0, none⟩ = some (.nilIface) ∧ wx.cell? ⟨w.heap.size + 1 + 1, 1, none⟩ = some (.nilFunc) ∧ wx.cell? ⟨w.heap.size + 1 + 1, 2, none⟩ = some (.int .i64 0) ∧ wx.cell? ⟨w.heap.size + 1 + 1, 3, none⟩ = some (.int .i64 0) ∧ wx.cell? ⟨w.heap.size + 1 + 1, 4, none⟩ = some (.int .i64 0) ∧ wx.cell? ⟨w.heap.size + 1 + 1, 5, none⟩ = some (.int .u32 0) ∧ wx.cell? ⟨w.heap.size + 1 + 1, 6, none⟩ = some (.int .u32 0) ∧ wx.cell? ⟨w.heap.size + 1 + 1, 7, none⟩ = some (.int .i64 0) ∧ wx.cell? ⟨w.heap.size + 1 + 1, 8, none⟩ = some (.int .u32 0) ∧ wx.cell? ⟨w.heap.size + 1 + 1, 9, none⟩ = some (.int .u32 0) ∧ wx.cell? ⟨w.heap.size + 1 + 1, 10, none⟩ = some (.slice none 0 0)) ∧ (∀ o, wx.frozen? ⟨w.heap.size + 1 + 1, o, none⟩ = false) ∧ Below w.heap.size w wx ∧ w.heap.size + 1 + 1 < wx.heap.size ∧ (Rd wx wx.heap.size 4 (some ⟨w1.heap.size + 1, 0, none⟩) (m + 1) (xs ++ gotc g)) ∧ m + 1 ≤ cp')
 case first =>
  exact abD9
 case rest =>
  obtain ⟨cp', rfl, ⟨s0, s1, s2, s3, s4, s5, s6, s7, s8, s9, s10, s11, s12, s13, s14⟩, ⟨t0, t1, t2, t3, t4, t5, t6, t7, t8, t9, t10⟩, p0', hB2, hz5, hR2, hcp⟩ := hcut
  have hz5a : w.heap.size < wc.heap.size := by omega
  have hz5b : w.heap.size + 1 < wc.heap.size := by omega
  go_wp2_with fail
  go_region_held3 (fun w' => w'.cell? ⟨w.heap.size, 0, none⟩ = some (c0) ∧ w'.cell? ⟨w.heap.size, 1, none⟩ = some ((.func (Fn.method "Next") #[.iface T p] #[])) ∧ w'.cell? ⟨w.heap.size, 2, none⟩ = some (.int .i64 a.o) ∧ w'.cell? ⟨w.heap.size, 3, none⟩ = some (.int .i64 a.l) ∧ w'.cell? ⟨w.heap.size, 4, none⟩ = some (.int .i64 a.v) ∧ w'.cell? ⟨w.heap.size, 5, none⟩ = some (.int .u32 a.r) ∧ w'.cell? ⟨w.heap.size, 6, none⟩ = some (.int .u32 a.f) ∧ w'.cell? ⟨w.heap.size, 7, none⟩ = some (.int .i64 a.v2) ∧ w'.cell? ⟨w.heap.size, 8, none⟩ = some (.int .u32 a.r2) ∧ w'.cell? ⟨w.heap.size, 9, none⟩ = some (.int .u32 a.f2) ∧ w'.cell? ⟨w.heap.size, 10, none⟩ = some (.slice (some ⟨w1.heap.size + 1, 0, none⟩) (m + 1) cp') ∧ w'.cell? ⟨w.heap.size + 1, 0, none⟩ = some (.int .i64 g.v) ∧ w'.cell? ⟨w.heap.size + 1, 1, none⟩ = some (.int .u32 g.r) ∧ w'.cell? ⟨w.heap.size + 1, 2, none⟩ = some (.int .u32 g.f) ∧ w'.cell? ⟨w.heap.size + 1, 3, none⟩ = some (.bool g.k))
   (first | exact ⟨by go_simp, by go_simp, by go_simp, by go_simp, by go_simp, by go_simp, by go_simp, by go_simp, by go_simp, by go_simp, by go_simp, by go_simp, by go_simp, by go_simp, by go_simp⟩ | go_keep)
   (first
    | (with_reducible refine (Hcall.out _ ab0).mono ?_; rintro e w4 ⟨rfl, hb4'⟩; have hb4 : Below _ _ w4 := ab10; clear hb4'; obtain ⟨hcc4, hff4, hs4⟩ := bC hb4; have hz6 : w.heap.size < w4.heap.size := oM; have hz7 : w.heap.size + 1 < w4.heap.size := oM; have hz8 : w.heap.size + 1 + 1 < w4.heap.size := oM)
    | (go_at_call 91; refine (told_go T p' _ _ a a' _ _ _ _ HT.out).mono ?_; rintro e w5 ⟨rfl, hb5'⟩; have hb5 : Below _ _ w5 := ab9; clear hb5'; obtain ⟨hcc5, hff5, hs5⟩ := bC hb5; have hz9 : w.heap.size < w5.heap.size := oM; have hz10 : w.heap.size + 1 < w5.heap.size := oM; have hz11 : w.heap.size + 1 + 1 < w5.heap.size := oM))
  all_goals have y0 : w5.cell? ⟨w.heap.size + 1 + 1, 0, none⟩ = some (.nilIface) := by go_simp
  all_goals have y1 : w5.cell? ⟨w.heap.size + 1 + 1, 1, none⟩ = some (.nilFunc) := by go_simp
  all_goals have y2 : w5.cell? ⟨w.heap.size + 1 + 1, 2, none⟩ = some (.int .i64 0) := by go_simp
  all_goals have y3 : w5.cell? ⟨w.heap.size + 1 + 1, 3, none⟩ = some (.int .i64 0) := by go_simp
  all_goals have y4 : w5.cell? ⟨w.heap.size + 1 + 1, 4, none⟩ = some (.int .i64 0) := by go_simp
  all_goals have y5 : w5.cell? ⟨w.heap.size + 1 + 1, 5, none⟩ = some (.int .u32 0) := by go_simp
  all_goals have y6 : w5.cell? ⟨w.heap.size + 1 + 1, 6, none⟩ = some (.int .u32 0) := by go_simp
  all_goals have y7 : w5.cell? ⟨w.heap.size + 1 + 1, 7, none⟩ = some (.int .i64 0) := by go_simp
  all_goals have y8 : w5.cell? ⟨w.heap.size + 1 + 1, 8, none⟩ = some (.int .u32 0) := by go_simp
  all_goals have y9 : w5.cell? ⟨w.heap.size + 1 + 1, 9, none⟩ = some (.int .u32 0) := by go_simp
  all_goals have y10 : w5.cell? ⟨w.heap.size + 1 + 1, 10, none⟩ = some (.slice none 0 0) := by go_simp
  all_goals have hbf : Below w.heap.size w w5 := (hB2.trans (hb4.mono oM)).trans (hb5.mono oM)
  all_goals clear hcc4 hff4 hcc5 hff5
  all_goals go_wp2
  all_goals refine bodyPost_ret (v := (.agg #[.iface T p', (.func (Fn.method "Next") #[.iface T p'] #[]), .int .i64 (a').o, .int .i64 (a').l, .int .i64 (a').v, .int .u32 (a').r, .int .u32 (a').f, .int .i64 (a').v2, .int .u32 (a').r2, .int .u32 (a').f2, .slice (some ⟨w1.heap.size + 1, 0, none⟩) (m + 1) cp'])) (by simp [results, Tryz.results67, go_sem, y0, y1, y2, y3, y4, y5, y6, y7, y8, y9, y10]) rfl ⟨some ⟨w1.heap.size + 1, 0, none⟩, cp', rfl, ⟨hcp, (fun e => by cases e), ?_⟩, (fun b off e => by injection e with e; injection e with e _; omega), ab0⟩
  all_goals have hR3 := hR2
  all_goals have hR5 := (hR3.below (hb4.trans (hb5.mono hs4))).more (show wc.heap.size ≤ w5.heap.size by omega)
  all_goals (repeat' with_reducible refine Rd.set_far ?_ oM _)
  all_goals exact Rd.more hR5 sM
theorem give_done (T : TypeId) (M : Nat) (p p' c0 : Value) (a a' : AS) (g : GS) (A : Option Addr) (m cp : Nat) (w : World) (hT : CodeT T)
  (hmeth : ∀ v w, (method 400 T v "Next").run Tryz.prog w = .ok (M, v) w) (hent : ∀ args w, (callFunc M args).run Tryz.prog w = .ok (.enter M args) w)
  (hm : m ≤ 1000) (xs : List Value) (hg : GotsR w A m cp xs)
  (hcall : ∀ W, Below w.heap.size w W → Calls Tryz.prog M #[p, (.agg #[.int .i64 (g).v, .int .u32 (g).r, .int .u32 (g).f, .bool (g).k])] W fun e W' => e = .returned (.tuple #[.iface T p', (acV a'), .bool true]) ∧ Below W.heap.size W W') :
  Calls Tryz.prog 67 #[(.agg #[c0, (.func (Fn.method "Next") #[.iface T p] #[]), .int .i64 (a).o, .int .i64 (a).l, .int .i64 (a).v, .int .u32 (a).r, .int .u32 (a).f, .int .i64 (a).v2, .int .u32 (a).r2, .int .u32 (a).f2, .slice A m cp]), (.agg #[.int .i64 (g).v, .int .u32 (g).r, .int .u32 (g).f, .bool (g).k])] w fun e w' => ∃ A' cp', e = .returned (.agg #[.iface T p', .nilFunc, .int .i64 (A0).o, .int .i64 (A0).l, .int .i64 (A0).v, .int .u32 (A0).r, .int .u32 (A0).f, .int .i64 (A0).v2, .int .u32 (A0).r2, .int .u32 (A0).f2, .slice A' (m + 1) cp']) ∧ GotsR w' A' (m + 1) cp' (xs ++ gotc g) ∧ NewB w A' ∧ Below w.heap.size w w' := by
 obtain ⟨i0, hi, iz0, iz1, iz2⟩ := info_parts info_got
 obtain ⟨hmc, hA, hr⟩ := hg
 have Hcall := hide hcall
 have Hr := hide hr
 have HA := hide hA
 have HT := hide hT
 clear hcall hr hA hT
 go_enter Tryz.func67, Tryz.ntmps67
 go_wp2_with fail
 refine (done_no T p c0 a A m cp _).mono ?_
 rintro e w1 ⟨rfl, hb1⟩
 obtain ⟨hcc1, hff1, hs1⟩ := bC hb1; (try simp at hs1); have hz1 : w.heap.size < w1.heap.size := (by omega)
 have hz2 : w.heap.size + 1 < w1.heap.size := by omega
 have hz3 : w.heap.size + 1 + 1 < w1.heap.size := by omega
 have hB1 : Below w.heap.size w w1 := ab0
 have b0 : w1.cell? ⟨w.heap.size, 0, none⟩ = some c0 := by go_simp
 have b1 : w1.cell? ⟨w.heap.size, 1, none⟩ = some (.func (Fn.method "Next") #[.iface T p] #[]) := by go_simp
 have b2 : w1.cell? ⟨w.heap.size, 2, none⟩ = some (.int .i64 a.o) := by go_simp
 have b3 : w1.cell? ⟨w.heap.size, 3, none⟩ = some (.int .i64 a.l) := by go_simp
 have b4 : w1.cell? ⟨w.heap.size, 4, none⟩ = some (.int .i64 a.v) := by go_simp
 have b5 : w1.cell? ⟨w.heap.size, 5, none⟩ = some (.int .u32 a.r) := by go_simp
 have b6 : w1.cell? ⟨w.heap.size, 6, none⟩ = some (.int .u32 a.f) := by go_simp
 have b7 : w1.cell? ⟨w.heap.size, 7, none⟩ = some (.int .i64 a.v2) := by go_simp
 have b8 : w1.cell? ⟨w.heap.size, 8, none⟩ = some (.int .u32 a.r2) := by go_simp
 have b9 : w1.cell? ⟨w.heap.size, 9, none⟩ = some (.int .u32 a.f2) := by go_simp
 have b10 : w1.cell? ⟨w.heap.size, 10, none⟩ = some (.slice A m cp) := by go_simp
 have g0 : w1.cell? ⟨w.heap.size + 1, 0, none⟩ = some (.int .i64 g.v) := by go_simp
 have g1 : w1.cell? ⟨w.heap.size + 1, 1, none⟩ = some (.int .u32 g.r) := by go_simp
 have g2 : w1.cell? ⟨w.heap.size + 1, 2, none⟩ = some (.int .u32 g.f) := by go_simp
 have g3 : w1.cell? ⟨w.heap.size + 1, 3, none⟩ = some (.bool g.k) := by go_simp
 have q10 : w1.frozen? ⟨w.heap.size, 10, none⟩ = false := by rw [hff1 _ _ (by simp <;> omega)]; go_simp
 have t0 : w1.cell? ⟨w.heap.size + 1 + 1, 0, none⟩ = some (.nilIface) := by go_simp
 have t1 : w1.cell? ⟨w.heap.size + 1 + 1, 1, none⟩ = some (.nilFunc) := by go_simp
 have t2 : w1.cell? ⟨w.heap.size + 1 + 1, 2, none⟩ = some (.int .i64 0) := by go_simp
 have t3 : w1.cell? ⟨w.heap.size + 1 + 1, 3, none⟩ = some (.int .i64 0) := by go_simp
 have t4 : w1.cell? ⟨w.heap.size + 1 + 1, 4, none⟩ = some (.int .i64 0) := by go_simp
 have t5 : w1.cell? ⟨w.heap.size + 1 + 1, 5, none⟩ = some (.int .u32 0) := by go_simp
 have t6 : w1.cell? ⟨w.heap.size + 1 + 1, 6, none⟩ = some (.int .u32 0) := by go_simp
 have t7 : w1.cell? ⟨w.heap.size + 1 + 1, 7, none⟩ = some (.int .i64 0) := by go_simp
 have t8 : w1.cell? ⟨w.heap.size + 1 + 1, 8, none⟩ = some (.int .u32 0) := by go_simp
 have t9 : w1.cell? ⟨w.heap.size + 1 + 1, 9, none⟩ = some (.int .u32 0) := by go_simp
 have t10 : w1.cell? ⟨w.heap.size + 1 + 1, 10, none⟩ = some (.slice none 0 0) := by go_simp
 have p0 : ∀ o, w1.frozen? ⟨w.heap.size + 1 + 1, o, none⟩ = false := fun o => by rw [hff1 _ _ (by simp <;> omega)]; exact World.frozen?_alloc_at _ _ _ _ (by simp)
 have hr1 := Hr.out.below hB1
 have Hr1 := hide hr1
 clear hcc1 hff1 hb1 hr1
 go_upto_region 4 with fail
 go_cut [5] (fun s5 wx => ∃ cp' : Nat, s5 = (.func (Fn.method "Next") #[.iface T p] #[]) ∧ (wx.cell? ⟨w.heap.size, 0, none⟩ = some (c0) ∧ wx.cell? ⟨w.heap.size, 1, none⟩ = some ((.func (Fn.method "Next") #[.iface T p] #[])) ∧ wx.cell? ⟨w.heap.size, 2, none⟩ = some (.int .i64 a.o) ∧ wx.cell? ⟨w.heap.size, 3, none⟩ = some (.int .i64 a.l) ∧ wx.cell? ⟨w.heap.size, 4, none⟩ = some (.int .i64 a.v) ∧ wx.cell? ⟨w.heap.size, 5, none⟩ = some (.int .u32 a.r) ∧ wx.cell? ⟨w.heap.size, 6, none⟩ = some (.int .u32 a.f) ∧ wx.cell? ⟨w.heap.size, 7, none⟩ = some (.int .i64 a.v2) ∧ wx.cell? ⟨w.heap.size, 8, none⟩ = some (.int .u32 a.r2) ∧ wx.cell? ⟨w.heap.size, 9, none⟩ = some (.int .u32 a.f2) ∧ wx.cell? ⟨w.heap.size, 10, none⟩ = some (.slice (some ⟨w1.heap.size + 1, 0, none⟩) (m + 1) cp') ∧ wx.cell? ⟨w.heap.size + 1, 0, none⟩ = some (.int .i64 g.v) ∧ wx.cell? ⟨w.heap.size + 1, 1, none⟩ = some (.int .u32 g.r) ∧ wx.cell? ⟨w.heap.size + 1, 2, none⟩ = some (.int .u32 g.f) ∧ wx.cell? ⟨w.heap.size + 1, 3, none⟩ = some (.bool g.k)) ∧ (wx.cell? ⟨w.heap.size + 1 + 1, 0, none⟩ = some (.nilIface) ∧ wx.cell? ⟨w.heap.size + 1 + 1, 1, none⟩ = some (.nilFunc) ∧ wx.cell? ⟨w.heap.size + 1 + 1, 2, none⟩ = some (.int .i64 0) ∧ wx.cell? ⟨w.heap.size + 1 + 1, 3, none⟩ = some (.int .i64 0) ∧ wx.cell? ⟨w.heap.size + 1 + 1, 4, none⟩ = some (.int .i64 0) ∧ wx.cell? ⟨w.heap.size + 1 + 1, 5, none⟩ = some (.int .u32 0) ∧ wx.cell? ⟨w.heap.size + 1 + 1, 6, none⟩ = some (.int .u32 0) ∧ wx.cell? ⟨w.heap.size + 1 + 1, 7, none⟩ = some (.int .i64 0) ∧ wx.cell? ⟨w.heap.size + 1 + 1, 8, none⟩ = some (.int .u32 0) ∧ wx.cell? ⟨w.heap.size + 1 + 1, 9, none⟩ = some (.int .u32 0) ∧ wx.cell? ⟨w.heap.size + 1 + 1, 10, none⟩ = some (.slice none 0 0)) ∧ (∀ o, wx.frozen? ⟨w.heap.size + 1 + 1, o, none⟩ = false) ∧ Below w.heap.size w wx ∧ w.heap.size + 1 + 1 < wx.heap.size ∧ (Rd wx wx.heap.size 4 (some ⟨w1.heap.size + 1, 0, none⟩) (m + 1) (xs ++ gotc g)) ∧ m + 1 ≤ cp')
 case first =>
  exact abD9
 case rest =>
  obtain ⟨cp', rfl, ⟨s0, s1, s2, s3, s4, s5, s6, s7, s8, s9, s10, s11, s12, s13, s14⟩, ⟨t0, t1, t2, t3, t4, t5, t6, t7, t8, t9, t10⟩, p0', hB2, hz5, hR2, hcp⟩ := hcut
  have hz5a : w.heap.size < wc.heap.size := by omega
  have hz5b : w.heap.size + 1 < wc.heap.size := by omega
  go_wp2_with fail
  go_region_held3 (fun w' => w'.cell? ⟨w.heap.size, 0, none⟩ = some (c0) ∧ w'.cell? ⟨w.heap.size, 1, none⟩ = some ((.func (Fn.method "Next") #[.iface T p] #[])) ∧ w'.cell? ⟨w.heap.size, 2, none⟩ = some (.int .i64 a.o) ∧ w'.cell? ⟨w.heap.size, 3, none⟩ = some (.int .i64 a.l) ∧ w'.cell? ⟨w.heap.size, 4, none⟩ = some (.int .i64 a.v) ∧ w'.cell? ⟨w.heap.size, 5, none⟩ = some (.int .u32 a.r) ∧ w'.cell? ⟨w.heap.size, 6, none⟩ = some (.int .u32 a.f) ∧ w'.cell? ⟨w.heap.size, 7, none⟩ = some (.int .i64 a.v2) ∧ w'.cell? ⟨w.heap.size, 8, none⟩ = some (.int .u32 a.r2) ∧ w'.cell? ⟨w.heap.size, 9, none⟩ = some (.int .u32 a.f2) ∧ w'.cell? ⟨w.heap.size, 10, none⟩ = some (.slice (some ⟨w1.heap.size + 1, 0, none⟩) (m + 1) cp') ∧ w'.cell? ⟨w.heap.size + 1, 0, none⟩ = some (.int .i64 g.v) ∧ w'.cell? ⟨w.heap.size + 1, 1, none⟩ = some (.int .u32 g.r) ∧ w'.cell? ⟨w.heap.size + 1, 2, none⟩ = some (.int .u32 g.f) ∧ w'.cell? ⟨w.heap.size + 1, 3, none⟩ = some (.bool g.k))
   (first | exact ⟨by go_simp, by go_simp, by go_simp, by go_simp, by go_simp, by go_simp, by go_simp, by go_simp, by go_simp, by go_simp, by go_simp, by go_simp, by go_simp, by go_simp, by go_simp⟩ | go_keep)
   (first
    | (with_reducible refine (Hcall.out _ ab0).mono ?_; rintro e w4 ⟨rfl, hb4'⟩; have hb4 : Below _ _ w4 := ab10; clear hb4'; obtain ⟨hcc4, hff4, hs4⟩ := bC hb4; have hz6 : w.heap.size < w4.heap.size := (by omega); have hz7 : w.heap.size + 1 < w4.heap.size := (by omega); have hz8 : w.heap.size + 1 + 1 < w4.heap.size := (by omega))
    | (go_at_call 91; refine (told_done T p' _ _ a a' _ _ _ _ HT.out).mono ?_; rintro e w5 ⟨rfl, hb5'⟩; have hb5 : Below _ _ w5 := ab9; clear hb5'; obtain ⟨hcc5, hff5, hs5⟩ := bC hb5; have hz9 : w.heap.size < w5.heap.size := (by omega); have hz10 : w.heap.size + 1 < w5.heap.size := (by omega); have hz11 : w.heap.size + 1 + 1 < w5.heap.size := (by omega)))
  all_goals have y0 : w5.cell? ⟨w.heap.size + 1 + 1, 0, none⟩ = some (.nilIface) := by go_simp
  all_goals have y1 : w5.cell? ⟨w.heap.size + 1 + 1, 1, none⟩ = some (.nilFunc) := by go_simp
  all_goals have y2 : w5.cell? ⟨w.heap.size + 1 + 1, 2, none⟩ = some (.int .i64 0) := by go_simp
  all_goals have y3 : w5.cell? ⟨w.heap.size + 1 + 1, 3, none⟩ = some (.int .i64 0) := by go_simp
  all_goals have y4 : w5.cell? ⟨w.heap.size + 1 + 1, 4, none⟩ = some (.int .i64 0) := by go_simp
  all_goals have y5 : w5.cell? ⟨w.heap.size + 1 + 1, 5, none⟩ = some (.int .u32 0) := by go_simp
  all_goals have y6 : w5.cell? ⟨w.heap.size + 1 + 1, 6, none⟩ = some (.int .u32 0) := by go_simp
  all_goals have y7 : w5.cell? ⟨w.heap.size + 1 + 1, 7, none⟩ = some (.int .i64 0) := by go_simp
  all_goals have y8 : w5.cell? ⟨w.heap.size + 1 + 1, 8, none⟩ = some (.int .u32 0) := by go_simp
  all_goals have y9 : w5.cell? ⟨w.heap.size + 1 + 1, 9, none⟩ = some (.int .u32 0) := by go_simp
  all_goals have y10 : w5.cell? ⟨w.heap.size + 1 + 1, 10, none⟩ = some (.slice none 0 0) := by go_simp
  all_goals have hbf : Below w.heap.size w w5 := (hB2.trans (hb4.mono (by omega))).trans (hb5.mono (by omega))
  all_goals clear hcc4 hff4 hcc5 hff5
  all_goals go_wp2
  all_goals refine bodyPost_ret (v := (.agg #[.iface T p', .nilFunc, .int .i64 (A0).o, .int .i64 (A0).l, .int .i64 (A0).v, .int .u32 (A0).r, .int .u32 (A0).f, .int .i64 (A0).v2, .int .u32 (A0).r2, .int .u32 (A0).f2, .slice (some ⟨w1.heap.size + 1, 0, none⟩) (m + 1) cp'])) (by simp [results, Tryz.results67, go_sem, y0, y1, y2, y3, y4, y5, y6, y7, y8, y9, y10]) rfl ⟨some ⟨w1.heap.size + 1, 0, none⟩, cp', rfl, ⟨hcp, (fun e => by cases e), ?_⟩, (fun b off e => by injection e with e; injection e with e _; omega), ab0⟩
  all_goals have hR3 := hR2
  all_goals have hR5 := (hR3.below (hb4.trans (hb5.mono hs4))).more (show wc.heap.size ≤ w5.heap.size by omega)
  all_goals (repeat' with_reducible refine Rd.set_far ?_ (by omega) _)
  all_goals exact Rd.more hR5 (by simp)
theorem start_go (T : TypeId) (M : Nat) (p p' : Value) (a' : AS) (w : World) (hT : CodeT T)
  (hmeth : ∀ v w, (method 400 T v "Next").run Tryz.prog w = .ok (M, v) w) (hent : ∀ args w, (callFunc M args).run Tryz.prog w = .ok (.enter M args) w)
  (hcall : ∀ W, Below w.heap.size w W → Calls Tryz.prog M #[p, (.agg #[.int .i64 (G0).v, .int .u32 (G0).r, .int .u32 (G0).f, .bool (G0).k])] W fun e W' => e = .returned (.tuple #[.iface T p', (acV a'), .bool false]) ∧ Below W.heap.size W W') :
  Calls Tryz.prog 55 #[.iface T p] w (Ret (.agg #[.iface T p', (.func (Fn.method "Next") #[.iface T p'] #[]), .int .i64 (a').o, .int .i64 (a').l, .int .i64 (a').v, .int .u32 (a').r, .int .u32 (a').f, .int .i64 (a').v2, .int .u32 (a').r2, .int .u32 (a').f2, .slice none 0 0]) w) := by
 have HT := hide hT
 obtain ⟨h1, h2, _⟩ := hT
 have Hcall := hide hcall
 clear hcall
 go_enter Tryz.func55, Tryz.ntmps55
 go_wp2_with fail
 refine (Hcall.out _ ab0).mono ?_
 rintro e w1 ⟨rfl, hb1⟩
 obtain ⟨hcc1, hff1, hs1⟩ := bC hb1; (try simp at hs1); have hz1 : w.heap.size < w1.heap.size := oM
 go_wp2_with fail
 refine (told_go T p' _ _ A0 a' _ _ _ _ HT.out).mono ?_
 rintro e w2 ⟨rfl, hb2⟩
 obtain ⟨hcc2, hff2, hs2⟩ := bC hb2; (try simp at hs2); have hz2 : w.heap.size < w2.heap.size := oM
 have t0 : w2.cell? ⟨w.heap.size, 0, none⟩ = some (.nilIface) := by go_simp
 have t1 : w2.cell? ⟨w.heap.size, 1, none⟩ = some (.nilFunc) := by go_simp
 have t2 : w2.cell? ⟨w.heap.size, 2, none⟩ = some (.int .i64 0) := by go_simp
 have t3 : w2.cell? ⟨w.heap.size, 3, none⟩ = some (.int .i64 0) := by go_simp
 have t4 : w2.cell? ⟨w.heap.size, 4, none⟩ = some (.int .i64 0) := by go_simp
 have t5 : w2.cell? ⟨w.heap.size, 5, none⟩ = some (.int .u32 0) := by go_simp
 have t6 : w2.cell? ⟨w.heap.size, 6, none⟩ = some (.int .u32 0) := by go_simp
 have t7 : w2.cell? ⟨w.heap.size, 7, none⟩ = some (.int .i64 0) := by go_simp
 have t8 : w2.cell? ⟨w.heap.size, 8, none⟩ = some (.int .u32 0) := by go_simp
 have t9 : w2.cell? ⟨w.heap.size, 9, none⟩ = some (.int .u32 0) := by go_simp
 have t10 : w2.cell? ⟨w.heap.size, 10, none⟩ = some (.slice none 0 0) := by go_simp
 have hB1 : Below w.heap.size w w2 := ab0
 go_wp2
 exact bodyPost_ret (v := (.agg #[.iface T p', (.func (Fn.method "Next") #[.iface T p'] #[]), .int .i64 (a').o, .int .i64 (a').l, .int .i64 (a').v, .int .u32 (a').r, .int .u32 (a').f, .int .i64 (a').v2, .int .u32 (a').r2, .int .u32 (a').f2, .slice none 0 0])) (by simp [results, Tryz.results55, go_sem, t0, t1, t2, t3, t4, t5, t6, t7, t8, t9, t10]) rfl ⟨rfl, ab0⟩
theorem start_done (T : TypeId) (M : Nat) (p p' : Value) (a' : AS) (w : World) (hT : CodeT T)
  (hmeth : ∀ v w, (method 400 T v "Next").run Tryz.prog w = .ok (M, v) w) (hent : ∀ args w, (callFunc M args).run Tryz.prog w = .ok (.enter M args) w)
  (hcall : ∀ W, Below w.heap.size w W → Calls Tryz.prog M #[p, (.agg #[.int .i64 (G0).v, .int .u32 (G0).r, .int .u32 (G0).f, .bool (G0).k])] W fun e W' => e = .returned (.tuple #[.iface T p', (acV a'), .bool true]) ∧ Below W.heap.size W W') :
  Calls Tryz.prog 55 #[.iface T p] w (Ret (.agg #[.iface T p', .nilFunc, .int .i64 (A0).o, .int .i64 (A0).l, .int .i64 (A0).v, .int .u32 (A0).r, .int .u32 (A0).f, .int .i64 (A0).v2, .int .u32 (A0).r2, .int .u32 (A0).f2, .slice none 0 0]) w) := by
 have HT := hide hT
 obtain ⟨h1, h2, _⟩ := hT
 have Hcall := hide hcall
 clear hcall
 go_enter Tryz.func55, Tryz.ntmps55
 go_wp2_with fail
 refine (Hcall.out _ ab0).mono ?_
 rintro e w1 ⟨rfl, hb1⟩
 obtain ⟨hcc1, hff1, hs1⟩ := bC hb1; (try simp at hs1); have hz1 : w.heap.size < w1.heap.size := oM
 go_wp2_with fail
 refine (told_done T p' _ _ A0 a' _ _ _ _ HT.out).mono ?_
 rintro e w2 ⟨rfl, hb2⟩
 obtain ⟨hcc2, hff2, hs2⟩ := bC hb2; (try simp at hs2); have hz2 : w.heap.size < w2.heap.size := oM
 have t0 : w2.cell? ⟨w.heap.size, 0, none⟩ = some (.nilIface) := by go_simp
 have t1 : w2.cell? ⟨w.heap.size, 1, none⟩ = some (.nilFunc) := by go_simp
 have t2 : w2.cell? ⟨w.heap.size, 2, none⟩ = some (.int .i64 0) := by go_simp
 have t3 : w2.cell? ⟨w.heap.size, 3, none⟩ = some (.int .i64 0) := by go_simp
 have t4 : w2.cell? ⟨w.heap.size, 4, none⟩ = some (.int .i64 0) := by go_simp
 have t5 : w2.cell? ⟨w.heap.size, 5, none⟩ = some (.int .u32 0) := by go_simp
 have t6 : w2.cell? ⟨w.heap.size, 6, none⟩ = some (.int .u32 0) := by go_simp
 have t7 : w2.cell? ⟨w.heap.size, 7, none⟩ = some (.int .i64 0) := by go_simp
 have t8 : w2.cell? ⟨w.heap.size, 8, none⟩ = some (.int .u32 0) := by go_simp
 have t9 : w2.cell? ⟨w.heap.size, 9, none⟩ = some (.int .u32 0) := by go_simp
 have t10 : w2.cell? ⟨w.heap.size, 10, none⟩ = some (.slice none 0 0) := by go_simp
 have hB1 : Below w.heap.size w w2 := ab0
 go_wp2
 exact bodyPost_ret (v := (.agg #[.iface T p', .nilFunc, .int .i64 (A0).o, .int .i64 (A0).l, .int .i64 (A0).v, .int .u32 (A0).r, .int .u32 (A0).f, .int .i64 (A0).v2, .int .u32 (A0).r2, .int .u32 (A0).f2, .slice none 0 0])) (by simp [results, Tryz.results55, go_sem, t0, t1, t2, t3, t4, t5, t6, t7, t8, t9, t10]) rfl ⟨rfl, ab0⟩
end Go.Proofs.YtnnmenmifphadaaGreatDoor
