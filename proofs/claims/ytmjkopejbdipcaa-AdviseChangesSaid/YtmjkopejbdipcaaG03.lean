/- Package task: Give where the code ends, and where the task has ended; Start. -/
import Derived.Maps.OwnSet
import Derived.Test.YtmjkopejbdipcaaG00
import Derived.Test.YtmjkopejbdipcaaG02
namespace Go.Proofs.Ytmjkopejbdipcaa
set_option linter.unusedSimpArgs false
set_option linter.unusedVariables false
open Go.RowKit

set_option maxHeartbeats 2000000 in
set_option maxRecDepth 100000 in
theorem give_done (T : TypeId) (M : Nat) (p p' c0 : Value) (a a' : AS) (g : GS) (A : Option Addr) (m cp : Nat) (w : World) (hT : CodeT T)
    (hmeth : ∀ v w, (method 306 T v "Next").run Try.prog w = .ok (M, v) w) (hent : ∀ args w, (callFunc M args).run Try.prog w = .ok (.enter M args) w)
    (hm : m ≤ 1000) (hg : GotsR w A m cp)
    (hcall : ∀ W, Below w.heap.size w W → Calls Try.prog M #[p, (.agg #[.int .i64 (g).v, .int .u32 (g).r, .int .u32 (g).f, .bool (g).k])] W fun e W' => e = .returned (.tuple #[.iface T p', (.agg #[.int .i64 (a').o, .int .i64 (a').l, .int .i64 (a').v, .int .u32 (a').r, .int .u32 (a').f, .int .i64 (a').v2, .int .u32 (a').r2, .int .u32 (a').f2]), .bool true]) ∧ Below W.heap.size W W') :
    Calls Try.prog 46 #[(.agg #[c0, (.func (Fn.method "Next") #[.iface T p] #[]), .int .i64 (a).o, .int .i64 (a).l, .int .i64 (a).v, .int .u32 (a).r, .int .u32 (a).f, .int .i64 (a).v2, .int .u32 (a).r2, .int .u32 (a).f2, .slice A m cp]), (.agg #[.int .i64 (g).v, .int .u32 (g).r, .int .u32 (g).f, .bool (g).k])] w fun e w' => ∃ A' cp', e = .returned (.agg #[.iface T p', .nilFunc, .int .i64 (A0).o, .int .i64 (A0).l, .int .i64 (A0).v, .int .u32 (A0).r, .int .u32 (A0).f, .int .i64 (A0).v2, .int .u32 (A0).r2, .int .u32 (A0).f2, .slice A' (m + 1) cp']) ∧ GotsR w' A' (m + 1) cp' ∧ NewB w A' ∧ Below w.heap.size w w' := by
  obtain ⟨i0, hi, iz0, iz1, iz2⟩ := info_parts info_got
  obtain ⟨hmc, hA, xs, hr⟩ := hg
  have Hcall := hide hcall
  have Hr := hide hr
  have HA := hide hA
  have HT := hide hT
  clear hcall hr hA hT
  go_enter Try.func46, Try.ntmps46
  go_wp2_with fail
  refine (done_no T p c0 a A m cp _).mono ?_
  rintro e w1 ⟨rfl, hb1⟩
  obtain ⟨hcc1, hff1⟩ := bcell hb1; have hs1 := hb1.size; (try simp at hs1); have hz1 : w.heap.size < w1.heap.size := (by omega)
  have hz2 : w.heap.size + 1 < w1.heap.size := by omega
  have hz3 : w.heap.size + 1 + 1 < w1.heap.size := by omega
  have hB1 : Below w.heap.size w w1 := (by repeat' (first | with_reducible exact Below.refl _ _ | with_reducible assumption | with_reducible refine Below.alloc ?_ ?_ _ | with_reducible refine Below.setCell ?_ ?_ _ | with_reducible refine Below.drew ?_ | with_reducible refine below_drewN ?_ _ | with_reducible refine Below.trans ?_ (Below.mono (by with_reducible assumption) ?_) | omega | (simp <;> omega)))
  have b0 : w1.cell? ⟨w.heap.size, 0, none⟩ = some c0 := by go_simp
  have b1 : w1.cell? ⟨w.heap.size, 1, none⟩ = some (.func (Fn.method "Next") #[.iface T p] #[]) := by go_simp
  have b2 : w1.cell? ⟨w.heap.size, 2, none⟩ = some (.int .i64 a.o) := by go_simp
  have b3 : w1.cell? ⟨w.heap.size, 3, none⟩ = some (.int .i64 a.l) := by go_simp
  have b4 : w1.cell? ⟨w.heap.size, 4, none⟩ = some (.int .i64 a.v) := by go_simp
  have b5 : w1.cell? ⟨w.heap.size, 5, none⟩ = some (.int .u32 a.r) := by go_simp
  have b6 : w1.cell? ⟨w.heap.size, 6, none⟩ = some (.int .u32 a.f) := by go_simp
  have b7 : w1.cell? ⟨w.heap.size, 7, none⟩ = some (.int .i64 a.v2) := by go_simp
  have b8 : w1.cell? ⟨w.heap.size, 8, none⟩ = some (.int .u32 a.r2) := by go_simp
  have b9 : w1.cell? ⟨w.heap.size, 9, none⟩ = some (.int .u32 a.f2) := by go_simp
  have b10 : w1.cell? ⟨w.heap.size, 10, none⟩ = some (.slice A m cp) := by go_simp
  have g0 : w1.cell? ⟨w.heap.size + 1, 0, none⟩ = some (.int .i64 g.v) := by go_simp
  have g1 : w1.cell? ⟨w.heap.size + 1, 1, none⟩ = some (.int .u32 g.r) := by go_simp
  have g2 : w1.cell? ⟨w.heap.size + 1, 2, none⟩ = some (.int .u32 g.f) := by go_simp
  have g3 : w1.cell? ⟨w.heap.size + 1, 3, none⟩ = some (.bool g.k) := by go_simp
  have q10 : w1.frozen? ⟨w.heap.size, 10, none⟩ = false := by rw [hff1 _ _ (by simp <;> omega)]; go_simp
  have t0 : w1.cell? ⟨w.heap.size + 1 + 1, 0, none⟩ = some (.nilIface) := by go_simp
  have t1 : w1.cell? ⟨w.heap.size + 1 + 1, 1, none⟩ = some (.nilFunc) := by go_simp
  have t2 : w1.cell? ⟨w.heap.size + 1 + 1, 2, none⟩ = some (.int .i64 0) := by go_simp
  have t3 : w1.cell? ⟨w.heap.size + 1 + 1, 3, none⟩ = some (.int .i64 0) := by go_simp
  have t4 : w1.cell? ⟨w.heap.size + 1 + 1, 4, none⟩ = some (.int .i64 0) := by go_simp
  have t5 : w1.cell? ⟨w.heap.size + 1 + 1, 5, none⟩ = some (.int .u32 0) := by go_simp
  have t6 : w1.cell? ⟨w.heap.size + 1 + 1, 6, none⟩ = some (.int .u32 0) := by go_simp
  have t7 : w1.cell? ⟨w.heap.size + 1 + 1, 7, none⟩ = some (.int .i64 0) := by go_simp
  have t8 : w1.cell? ⟨w.heap.size + 1 + 1, 8, none⟩ = some (.int .u32 0) := by go_simp
  have t9 : w1.cell? ⟨w.heap.size + 1 + 1, 9, none⟩ = some (.int .u32 0) := by go_simp
  have t10 : w1.cell? ⟨w.heap.size + 1 + 1, 10, none⟩ = some (.slice none 0 0) := by go_simp
  have p0 : ∀ o, w1.frozen? ⟨w.heap.size + 1 + 1, o, none⟩ = false := fun o => by rw [hff1 _ _ (by simp <;> omega)]; exact World.frozen?_alloc_at _ _ _ _ (by simp)
  have hr1 := Hr.out.below hB1
  have Hr1 := hide hr1
  clear hcc1 hff1 hb1 hr1
  go_upto_region 4 with fail
  go_cut [5] (fun s5 wx => ∃ cp' : Nat, s5 = (.func (Fn.method "Next") #[.iface T p] #[]) ∧ (wx.cell? ⟨w.heap.size, 0, none⟩ = some (c0) ∧ wx.cell? ⟨w.heap.size, 1, none⟩ = some ((.func (Fn.method "Next") #[.iface T p] #[])) ∧ wx.cell? ⟨w.heap.size, 2, none⟩ = some (.int .i64 a.o) ∧ wx.cell? ⟨w.heap.size, 3, none⟩ = some (.int .i64 a.l) ∧ wx.cell? ⟨w.heap.size, 4, none⟩ = some (.int .i64 a.v) ∧ wx.cell? ⟨w.heap.size, 5, none⟩ = some (.int .u32 a.r) ∧ wx.cell? ⟨w.heap.size, 6, none⟩ = some (.int .u32 a.f) ∧ wx.cell? ⟨w.heap.size, 7, none⟩ = some (.int .i64 a.v2) ∧ wx.cell? ⟨w.heap.size, 8, none⟩ = some (.int .u32 a.r2) ∧ wx.cell? ⟨w.heap.size, 9, none⟩ = some (.int .u32 a.f2) ∧ wx.cell? ⟨w.heap.size, 10, none⟩ = some (.slice (some ⟨w1.heap.size + 1, 0, none⟩) (m + 1) cp') ∧ wx.cell? ⟨w.heap.size + 1, 0, none⟩ = some (.int .i64 g.v) ∧ wx.cell? ⟨w.heap.size + 1, 1, none⟩ = some (.int .u32 g.r) ∧ wx.cell? ⟨w.heap.size + 1, 2, none⟩ = some (.int .u32 g.f) ∧ wx.cell? ⟨w.heap.size + 1, 3, none⟩ = some (.bool g.k)) ∧ (wx.cell? ⟨w.heap.size + 1 + 1, 0, none⟩ = some (.nilIface) ∧ wx.cell? ⟨w.heap.size + 1 + 1, 1, none⟩ = some (.nilFunc) ∧ wx.cell? ⟨w.heap.size + 1 + 1, 2, none⟩ = some (.int .i64 0) ∧ wx.cell? ⟨w.heap.size + 1 + 1, 3, none⟩ = some (.int .i64 0) ∧ wx.cell? ⟨w.heap.size + 1 + 1, 4, none⟩ = some (.int .i64 0) ∧ wx.cell? ⟨w.heap.size + 1 + 1, 5, none⟩ = some (.int .u32 0) ∧ wx.cell? ⟨w.heap.size + 1 + 1, 6, none⟩ = some (.int .u32 0) ∧ wx.cell? ⟨w.heap.size + 1 + 1, 7, none⟩ = some (.int .i64 0) ∧ wx.cell? ⟨w.heap.size + 1 + 1, 8, none⟩ = some (.int .u32 0) ∧ wx.cell? ⟨w.heap.size + 1 + 1, 9, none⟩ = some (.int .u32 0) ∧ wx.cell? ⟨w.heap.size + 1 + 1, 10, none⟩ = some (.slice none 0 0)) ∧ (∀ o, wx.frozen? ⟨w.heap.size + 1 + 1, o, none⟩ = false) ∧ Below w.heap.size w wx ∧ w.heap.size + 1 + 1 < wx.heap.size ∧ (∃ zs, Rd wx wx.heap.size 4 (some ⟨w1.heap.size + 1, 0, none⟩) (m + 1) zs) ∧ m + 1 ≤ cp')
  case first =>
    go_region_law (first
      | (refine step_append_new rfl (.tmp 13) (.tmp 15) 70 rfl 119 i0 _ 4 24 Try.underlying70 hi iz0 iz1 iz2 w.heap.size A m xs (by simp [Act.eval, Act.put]) (Hr1.out.below (by repeat' (first | with_reducible exact Below.refl _ _ | with_reducible assumption | with_reducible refine Below.alloc ?_ ?_ _ | with_reducible refine Below.setCell ?_ ?_ _ | with_reducible refine Below.drew ?_ | with_reducible refine below_drewN ?_ _ | with_reducible refine Below.trans ?_ (Below.mono (by with_reducible assumption) ?_) | omega | (simp <;> omega)))) HA.out ⟨w1.heap.size, 0, none⟩ 1 [.int .i64 g.v, .int .u32 g.r, .int .u32 g.f, .bool g.k] (by simp [Act.eval, Act.put]) rfl ?_ (by unfold maxLen; omega) (by omega) ?_; (focus (intro j u hu; match j, hu with | 0, hu => (simp at hu; subst hu; simp [Addr.add]) | 1, hu => (simp at hu; subst hu; simp [Addr.add]) | 2, hu => (simp at hu; subst hu; simp [Addr.add]) | 3, hu => (simp at hu; subst hu; simp [Addr.add]) | j + 4, hu => simp at hu)); intro cp' w2 hcp hrd2 hb2 hz3; obtain ⟨hcc2, hff2⟩ := bcell hb2)
      | (go_simp; go_at_call 60; refine (clip_any A m cp _ hmc).mono ?_; rintro e w3 ⟨rfl, rfl⟩))
    all_goals go_wp2_with fail
    all_goals go_meet
    all_goals have hx2 : w1.heap.size + 1 < w2.heap.size := (by have h := hz3; (try simp at h); omega)
    all_goals have hx1 : w1.heap.size < w2.heap.size := by omega
    all_goals have hb0 : Below w.heap.size w w2 := (by repeat' (first | with_reducible exact Below.refl _ _ | with_reducible assumption | with_reducible refine Below.alloc ?_ ?_ _ | with_reducible refine Below.setCell ?_ ?_ _ | with_reducible refine Below.drew ?_ | with_reducible refine below_drewN ?_ _ | with_reducible refine Below.trans ?_ (Below.mono (by with_reducible assumption) ?_) | omega | (simp <;> omega)))
    all_goals have r10 : w2.cell? ⟨w.heap.size, 10, none⟩ = some (.slice A m cp) := by go_simp
    all_goals refine ⟨cp', rfl, ⟨by go_simp, by go_simp, by go_simp, by go_simp, by go_simp, by go_simp, by go_simp, by go_simp, by go_simp, by go_simp, by go_simp, by go_simp, by go_simp, by go_simp, by go_simp⟩, ⟨by go_simp, by go_simp, by go_simp, by go_simp, by go_simp, by go_simp, by go_simp, by go_simp, by go_simp, by go_simp, by go_simp⟩, fun o => ?_, (by repeat' (first | with_reducible exact Below.refl _ _ | with_reducible assumption | with_reducible refine Below.alloc ?_ ?_ _ | with_reducible refine Below.setCell ?_ ?_ _ | with_reducible refine Below.drew ?_ | with_reducible refine below_drewN ?_ _ | with_reducible refine Below.trans ?_ (Below.mono (by with_reducible assumption) ?_) | omega | (simp <;> omega))), by simp; omega, ⟨xs ++ [.int .i64 g.v, .int .u32 g.r, .int .u32 g.f, .bool g.k], ?_⟩, hcp.out⟩
    all_goals first
      | (rw [World.frozen?_setCell, hff2 _ _ (by simp <;> omega)]; go_simp; done)
      | skip
    all_goals have h7 := hrd2.out
    all_goals (try simp at h7)
    all_goals with_reducible refine Rd.set_far ?_ (by omega) _
    all_goals exact Rd.more h7 (by simp)
  case rest =>
    obtain ⟨cp', rfl, ⟨s0, s1, s2, s3, s4, s5, s6, s7, s8, s9, s10, s11, s12, s13, s14⟩, ⟨t0, t1, t2, t3, t4, t5, t6, t7, t8, t9, t10⟩, p0', hB2, hz5, hR2, hcp⟩ := hcut
    have hz5a : w.heap.size < wc.heap.size := by omega
    have hz5b : w.heap.size + 1 < wc.heap.size := by omega
    go_wp2_with fail
    go_region_held3 (fun w' => w'.cell? ⟨w.heap.size, 0, none⟩ = some (c0) ∧ w'.cell? ⟨w.heap.size, 1, none⟩ = some ((.func (Fn.method "Next") #[.iface T p] #[])) ∧ w'.cell? ⟨w.heap.size, 2, none⟩ = some (.int .i64 a.o) ∧ w'.cell? ⟨w.heap.size, 3, none⟩ = some (.int .i64 a.l) ∧ w'.cell? ⟨w.heap.size, 4, none⟩ = some (.int .i64 a.v) ∧ w'.cell? ⟨w.heap.size, 5, none⟩ = some (.int .u32 a.r) ∧ w'.cell? ⟨w.heap.size, 6, none⟩ = some (.int .u32 a.f) ∧ w'.cell? ⟨w.heap.size, 7, none⟩ = some (.int .i64 a.v2) ∧ w'.cell? ⟨w.heap.size, 8, none⟩ = some (.int .u32 a.r2) ∧ w'.cell? ⟨w.heap.size, 9, none⟩ = some (.int .u32 a.f2) ∧ w'.cell? ⟨w.heap.size, 10, none⟩ = some (.slice (some ⟨w1.heap.size + 1, 0, none⟩) (m + 1) cp') ∧ w'.cell? ⟨w.heap.size + 1, 0, none⟩ = some (.int .i64 g.v) ∧ w'.cell? ⟨w.heap.size + 1, 1, none⟩ = some (.int .u32 g.r) ∧ w'.cell? ⟨w.heap.size + 1, 2, none⟩ = some (.int .u32 g.f) ∧ w'.cell? ⟨w.heap.size + 1, 3, none⟩ = some (.bool g.k))
      (first | exact ⟨by go_simp, by go_simp, by go_simp, by go_simp, by go_simp, by go_simp, by go_simp, by go_simp, by go_simp, by go_simp, by go_simp, by go_simp, by go_simp, by go_simp, by go_simp⟩ | go_keep)
      (first
        | (with_reducible refine (Hcall.out _ (by repeat' (first | with_reducible exact Below.refl _ _ | with_reducible assumption | with_reducible refine Below.alloc ?_ ?_ _ | with_reducible refine Below.setCell ?_ ?_ _ | with_reducible refine Below.drew ?_ | with_reducible refine below_drewN ?_ _ | with_reducible refine Below.trans ?_ (Below.mono (by with_reducible assumption) ?_) | omega | (simp <;> omega)))).mono ?_; rintro e w4 ⟨rfl, hb4'⟩; have hb4 : Below _ _ w4 := (by first | with_reducible exact noDrew hb4' | exact hb4'); clear hb4'; obtain ⟨hcc4, hff4⟩ := bcell hb4; have hs4 := hb4.size; have hz6 : w.heap.size < w4.heap.size := (by omega); have hz7 : w.heap.size + 1 < w4.heap.size := (by omega); have hz8 : w.heap.size + 1 + 1 < w4.heap.size := (by omega))
        | (go_at_call 38; refine (told_done T p' _ _ a a' _ _ _ _ HT.out).mono ?_; rintro e w5 ⟨rfl, hb5'⟩; have hb5 : Below _ _ w5 := (by first | with_reducible exact noDrew hb5' | exact hb5'); clear hb5'; obtain ⟨hcc5, hff5⟩ := bcell hb5; have hs5 := hb5.size; have hz9 : w.heap.size < w5.heap.size := (by omega); have hz10 : w.heap.size + 1 < w5.heap.size := (by omega); have hz11 : w.heap.size + 1 + 1 < w5.heap.size := (by omega)))
    all_goals have y0 : w5.cell? ⟨w.heap.size + 1 + 1, 0, none⟩ = some (.nilIface) := by go_simp
    all_goals have y1 : w5.cell? ⟨w.heap.size + 1 + 1, 1, none⟩ = some (.nilFunc) := by go_simp
    all_goals have y2 : w5.cell? ⟨w.heap.size + 1 + 1, 2, none⟩ = some (.int .i64 0) := by go_simp
    all_goals have y3 : w5.cell? ⟨w.heap.size + 1 + 1, 3, none⟩ = some (.int .i64 0) := by go_simp
    all_goals have y4 : w5.cell? ⟨w.heap.size + 1 + 1, 4, none⟩ = some (.int .i64 0) := by go_simp
    all_goals have y5 : w5.cell? ⟨w.heap.size + 1 + 1, 5, none⟩ = some (.int .u32 0) := by go_simp
    all_goals have y6 : w5.cell? ⟨w.heap.size + 1 + 1, 6, none⟩ = some (.int .u32 0) := by go_simp
    all_goals have y7 : w5.cell? ⟨w.heap.size + 1 + 1, 7, none⟩ = some (.int .i64 0) := by go_simp
    all_goals have y8 : w5.cell? ⟨w.heap.size + 1 + 1, 8, none⟩ = some (.int .u32 0) := by go_simp
    all_goals have y9 : w5.cell? ⟨w.heap.size + 1 + 1, 9, none⟩ = some (.int .u32 0) := by go_simp
    all_goals have y10 : w5.cell? ⟨w.heap.size + 1 + 1, 10, none⟩ = some (.slice none 0 0) := by go_simp
    all_goals have hbf : Below w.heap.size w w5 := (hB2.trans (hb4.mono (by omega))).trans (hb5.mono (by omega))
    all_goals clear hcc4 hff4 hcc5 hff5
    all_goals go_wp2
    all_goals refine bodyPost_ret (v := (.agg #[.iface T p', .nilFunc, .int .i64 (A0).o, .int .i64 (A0).l, .int .i64 (A0).v, .int .u32 (A0).r, .int .u32 (A0).f, .int .i64 (A0).v2, .int .u32 (A0).r2, .int .u32 (A0).f2, .slice (some ⟨w1.heap.size + 1, 0, none⟩) (m + 1) cp'])) (by simp [results, Try.results46, go_sem, y0, y1, y2, y3, y4, y5, y6, y7, y8, y9, y10]) rfl ⟨some ⟨w1.heap.size + 1, 0, none⟩, cp', rfl, ⟨hcp, (fun e => by cases e), ?_⟩, (fun b off e => by injection e with e; injection e with e _; omega), (by repeat' (first | with_reducible exact Below.refl _ _ | with_reducible assumption | with_reducible refine Below.alloc ?_ ?_ _ | with_reducible refine Below.setCell ?_ ?_ _ | with_reducible refine Below.drew ?_ | with_reducible refine below_drewN ?_ _ | with_reducible refine Below.trans ?_ (Below.mono (by with_reducible assumption) ?_) | omega | (simp <;> omega)))⟩
    all_goals obtain ⟨zs, hR3⟩ := hR2
    all_goals have hR5 := (hR3.below (hb4.trans (hb5.mono hs4))).more (show wc.heap.size ≤ w5.heap.size by omega)
    all_goals refine ⟨zs, ?_⟩
    all_goals (repeat' with_reducible refine Rd.set_far ?_ (by omega) _)
    all_goals exact Rd.more hR5 (by simp)

theorem give_nil (T : TypeId) (p : Value) (a : AS) (g : GS) (A : Option Addr) (m cp : Nat) (w : World) :
    Calls Try.prog 46 #[(.agg #[.iface T p, .nilFunc, .int .i64 (a).o, .int .i64 (a).l, .int .i64 (a).v, .int .u32 (a).r, .int .u32 (a).f, .int .i64 (a).v2, .int .u32 (a).r2, .int .u32 (a).f2, .slice A m cp]), (.agg #[.int .i64 (g).v, .int .u32 (g).r, .int .u32 (g).f, .bool (g).k])] w fun e w' => e = .returned (.agg #[.iface T p, .nilFunc, .int .i64 (a).o, .int .i64 (a).l, .int .i64 (a).v, .int .u32 (a).r, .int .u32 (a).f, .int .i64 (a).v2, .int .u32 (a).r2, .int .u32 (a).f2, .slice A m cp]) ∧ Below w.heap.size w w' := by
  go_enter Try.func46, Try.ntmps46
  go_wp2_with fail
  refine (done_yes (.iface T p) a A m cp _).mono ?_
  rintro e w1 ⟨rfl, hb1⟩
  obtain ⟨hcc1, hff1⟩ := bcell hb1; have hs1 := hb1.size; (try simp at hs1); have hz1 : w.heap.size < w1.heap.size := (by omega)
  have hz2 : w.heap.size + 1 < w1.heap.size := by omega
  have hz3 : w.heap.size + 1 + 1 < w1.heap.size := by omega
  have t0 : w1.cell? ⟨w.heap.size + 1 + 1, 0, none⟩ = some (.nilIface) := by go_simp
  have t1 : w1.cell? ⟨w.heap.size + 1 + 1, 1, none⟩ = some (.nilFunc) := by go_simp
  have t2 : w1.cell? ⟨w.heap.size + 1 + 1, 2, none⟩ = some (.int .i64 0) := by go_simp
  have t3 : w1.cell? ⟨w.heap.size + 1 + 1, 3, none⟩ = some (.int .i64 0) := by go_simp
  have t4 : w1.cell? ⟨w.heap.size + 1 + 1, 4, none⟩ = some (.int .i64 0) := by go_simp
  have t5 : w1.cell? ⟨w.heap.size + 1 + 1, 5, none⟩ = some (.int .u32 0) := by go_simp
  have t6 : w1.cell? ⟨w.heap.size + 1 + 1, 6, none⟩ = some (.int .u32 0) := by go_simp
  have t7 : w1.cell? ⟨w.heap.size + 1 + 1, 7, none⟩ = some (.int .i64 0) := by go_simp
  have t8 : w1.cell? ⟨w.heap.size + 1 + 1, 8, none⟩ = some (.int .u32 0) := by go_simp
  have t9 : w1.cell? ⟨w.heap.size + 1 + 1, 9, none⟩ = some (.int .u32 0) := by go_simp
  have t10 : w1.cell? ⟨w.heap.size + 1 + 1, 10, none⟩ = some (.slice none 0 0) := by go_simp
  have hB1 : Below w.heap.size w w1 := (by repeat' (first | with_reducible exact Below.refl _ _ | with_reducible assumption | with_reducible refine Below.alloc ?_ ?_ _ | with_reducible refine Below.setCell ?_ ?_ _ | with_reducible refine Below.drew ?_ | with_reducible refine below_drewN ?_ _ | with_reducible refine Below.trans ?_ (Below.mono (by with_reducible assumption) ?_) | omega | (simp <;> omega)))
  go_wp2
  exact bodyPost_ret (v := (.agg #[.iface T p, .nilFunc, .int .i64 (a).o, .int .i64 (a).l, .int .i64 (a).v, .int .u32 (a).r, .int .u32 (a).f, .int .i64 (a).v2, .int .u32 (a).r2, .int .u32 (a).f2, .slice A m cp])) (by simp [results, Try.results46, go_sem, t0, t1, t2, t3, t4, t5, t6, t7, t8, t9, t10]) rfl ⟨rfl, (by repeat' (first | with_reducible exact Below.refl _ _ | with_reducible assumption | with_reducible refine Below.alloc ?_ ?_ _ | with_reducible refine Below.setCell ?_ ?_ _ | with_reducible refine Below.drew ?_ | with_reducible refine below_drewN ?_ _ | with_reducible refine Below.trans ?_ (Below.mono (by with_reducible assumption) ?_) | omega | (simp <;> omega)))⟩


set_option maxHeartbeats 1000000 in
theorem start_go (T : TypeId) (M : Nat) (p p' : Value) (a' : AS) (w : World) (hT : CodeT T)
    (hmeth : ∀ v w, (method 306 T v "Next").run Try.prog w = .ok (M, v) w) (hent : ∀ args w, (callFunc M args).run Try.prog w = .ok (.enter M args) w)
    (hcall : ∀ W, Below w.heap.size w W → Calls Try.prog M #[p, (.agg #[.int .i64 (G0).v, .int .u32 (G0).r, .int .u32 (G0).f, .bool (G0).k])] W fun e W' => e = .returned (.tuple #[.iface T p', (.agg #[.int .i64 (a').o, .int .i64 (a').l, .int .i64 (a').v, .int .u32 (a').r, .int .u32 (a').f, .int .i64 (a').v2, .int .u32 (a').r2, .int .u32 (a').f2]), .bool false]) ∧ Below W.heap.size W W') :
    Calls Try.prog 23 #[.iface T p] w fun e w' => e = .returned (.agg #[.iface T p', (.func (Fn.method "Next") #[.iface T p'] #[]), .int .i64 (a').o, .int .i64 (a').l, .int .i64 (a').v, .int .u32 (a').r, .int .u32 (a').f, .int .i64 (a').v2, .int .u32 (a').r2, .int .u32 (a').f2, .slice none 0 0]) ∧ Below w.heap.size w w' := by
  have HT := hide hT
  obtain ⟨h1, h2, _⟩ := hT
  have Hcall := hide hcall
  clear hcall
  go_enter Try.func23, Try.ntmps23
  go_wp2_with fail
  refine (Hcall.out _ (by repeat' (first | with_reducible exact Below.refl _ _ | with_reducible assumption | with_reducible refine Below.alloc ?_ ?_ _ | with_reducible refine Below.setCell ?_ ?_ _ | with_reducible refine Below.drew ?_ | with_reducible refine below_drewN ?_ _ | with_reducible refine Below.trans ?_ (Below.mono (by with_reducible assumption) ?_) | omega | (simp <;> omega)))).mono ?_
  rintro e w1 ⟨rfl, hb1⟩
  obtain ⟨hcc1, hff1⟩ := bcell hb1; have hs1 := hb1.size; (try simp at hs1); have hz1 : w.heap.size < w1.heap.size := (by omega)
  go_wp2_with fail
  refine (told_go T p' _ _ A0 a' _ _ _ _ HT.out).mono ?_
  rintro e w2 ⟨rfl, hb2⟩
  obtain ⟨hcc2, hff2⟩ := bcell hb2; have hs2 := hb2.size; (try simp at hs2); have hz2 : w.heap.size < w2.heap.size := (by omega)
  have t0 : w2.cell? ⟨w.heap.size, 0, none⟩ = some (.nilIface) := by go_simp
  have t1 : w2.cell? ⟨w.heap.size, 1, none⟩ = some (.nilFunc) := by go_simp
  have t2 : w2.cell? ⟨w.heap.size, 2, none⟩ = some (.int .i64 0) := by go_simp
  have t3 : w2.cell? ⟨w.heap.size, 3, none⟩ = some (.int .i64 0) := by go_simp
  have t4 : w2.cell? ⟨w.heap.size, 4, none⟩ = some (.int .i64 0) := by go_simp
  have t5 : w2.cell? ⟨w.heap.size, 5, none⟩ = some (.int .u32 0) := by go_simp
  have t6 : w2.cell? ⟨w.heap.size, 6, none⟩ = some (.int .u32 0) := by go_simp
  have t7 : w2.cell? ⟨w.heap.size, 7, none⟩ = some (.int .i64 0) := by go_simp
  have t8 : w2.cell? ⟨w.heap.size, 8, none⟩ = some (.int .u32 0) := by go_simp
  have t9 : w2.cell? ⟨w.heap.size, 9, none⟩ = some (.int .u32 0) := by go_simp
  have t10 : w2.cell? ⟨w.heap.size, 10, none⟩ = some (.slice none 0 0) := by go_simp
  have hB1 : Below w.heap.size w w2 := (by repeat' (first | with_reducible exact Below.refl _ _ | with_reducible assumption | with_reducible refine Below.alloc ?_ ?_ _ | with_reducible refine Below.setCell ?_ ?_ _ | with_reducible refine Below.drew ?_ | with_reducible refine below_drewN ?_ _ | with_reducible refine Below.trans ?_ (Below.mono (by with_reducible assumption) ?_) | omega | (simp <;> omega)))
  go_wp2
  exact bodyPost_ret (v := (.agg #[.iface T p', (.func (Fn.method "Next") #[.iface T p'] #[]), .int .i64 (a').o, .int .i64 (a').l, .int .i64 (a').v, .int .u32 (a').r, .int .u32 (a').f, .int .i64 (a').v2, .int .u32 (a').r2, .int .u32 (a').f2, .slice none 0 0])) (by simp [results, Try.results23, go_sem, t0, t1, t2, t3, t4, t5, t6, t7, t8, t9, t10]) rfl ⟨rfl, (by repeat' (first | with_reducible exact Below.refl _ _ | with_reducible assumption | with_reducible refine Below.alloc ?_ ?_ _ | with_reducible refine Below.setCell ?_ ?_ _ | with_reducible refine Below.drew ?_ | with_reducible refine below_drewN ?_ _ | with_reducible refine Below.trans ?_ (Below.mono (by with_reducible assumption) ?_) | omega | (simp <;> omega)))⟩

set_option maxHeartbeats 1000000 in
theorem start_done (T : TypeId) (M : Nat) (p p' : Value) (a' : AS) (w : World) (hT : CodeT T)
    (hmeth : ∀ v w, (method 306 T v "Next").run Try.prog w = .ok (M, v) w) (hent : ∀ args w, (callFunc M args).run Try.prog w = .ok (.enter M args) w)
    (hcall : ∀ W, Below w.heap.size w W → Calls Try.prog M #[p, (.agg #[.int .i64 (G0).v, .int .u32 (G0).r, .int .u32 (G0).f, .bool (G0).k])] W fun e W' => e = .returned (.tuple #[.iface T p', (.agg #[.int .i64 (a').o, .int .i64 (a').l, .int .i64 (a').v, .int .u32 (a').r, .int .u32 (a').f, .int .i64 (a').v2, .int .u32 (a').r2, .int .u32 (a').f2]), .bool true]) ∧ Below W.heap.size W W') :
    Calls Try.prog 23 #[.iface T p] w fun e w' => e = .returned (.agg #[.iface T p', .nilFunc, .int .i64 (A0).o, .int .i64 (A0).l, .int .i64 (A0).v, .int .u32 (A0).r, .int .u32 (A0).f, .int .i64 (A0).v2, .int .u32 (A0).r2, .int .u32 (A0).f2, .slice none 0 0]) ∧ Below w.heap.size w w' := by
  have HT := hide hT
  obtain ⟨h1, h2, _⟩ := hT
  have Hcall := hide hcall
  clear hcall
  go_enter Try.func23, Try.ntmps23
  go_wp2_with fail
  refine (Hcall.out _ (by repeat' (first | with_reducible exact Below.refl _ _ | with_reducible assumption | with_reducible refine Below.alloc ?_ ?_ _ | with_reducible refine Below.setCell ?_ ?_ _ | with_reducible refine Below.drew ?_ | with_reducible refine below_drewN ?_ _ | with_reducible refine Below.trans ?_ (Below.mono (by with_reducible assumption) ?_) | omega | (simp <;> omega)))).mono ?_
  rintro e w1 ⟨rfl, hb1⟩
  obtain ⟨hcc1, hff1⟩ := bcell hb1; have hs1 := hb1.size; (try simp at hs1); have hz1 : w.heap.size < w1.heap.size := (by omega)
  go_wp2_with fail
  refine (told_done T p' _ _ A0 a' _ _ _ _ HT.out).mono ?_
  rintro e w2 ⟨rfl, hb2⟩
  obtain ⟨hcc2, hff2⟩ := bcell hb2; have hs2 := hb2.size; (try simp at hs2); have hz2 : w.heap.size < w2.heap.size := (by omega)
  have t0 : w2.cell? ⟨w.heap.size, 0, none⟩ = some (.nilIface) := by go_simp
  have t1 : w2.cell? ⟨w.heap.size, 1, none⟩ = some (.nilFunc) := by go_simp
  have t2 : w2.cell? ⟨w.heap.size, 2, none⟩ = some (.int .i64 0) := by go_simp
  have t3 : w2.cell? ⟨w.heap.size, 3, none⟩ = some (.int .i64 0) := by go_simp
  have t4 : w2.cell? ⟨w.heap.size, 4, none⟩ = some (.int .i64 0) := by go_simp
  have t5 : w2.cell? ⟨w.heap.size, 5, none⟩ = some (.int .u32 0) := by go_simp
  have t6 : w2.cell? ⟨w.heap.size, 6, none⟩ = some (.int .u32 0) := by go_simp
  have t7 : w2.cell? ⟨w.heap.size, 7, none⟩ = some (.int .i64 0) := by go_simp
  have t8 : w2.cell? ⟨w.heap.size, 8, none⟩ = some (.int .u32 0) := by go_simp
  have t9 : w2.cell? ⟨w.heap.size, 9, none⟩ = some (.int .u32 0) := by go_simp
  have t10 : w2.cell? ⟨w.heap.size, 10, none⟩ = some (.slice none 0 0) := by go_simp
  have hB1 : Below w.heap.size w w2 := (by repeat' (first | with_reducible exact Below.refl _ _ | with_reducible assumption | with_reducible refine Below.alloc ?_ ?_ _ | with_reducible refine Below.setCell ?_ ?_ _ | with_reducible refine Below.drew ?_ | with_reducible refine below_drewN ?_ _ | with_reducible refine Below.trans ?_ (Below.mono (by with_reducible assumption) ?_) | omega | (simp <;> omega)))
  go_wp2
  exact bodyPost_ret (v := (.agg #[.iface T p', .nilFunc, .int .i64 (A0).o, .int .i64 (A0).l, .int .i64 (A0).v, .int .u32 (A0).r, .int .u32 (A0).f, .int .i64 (A0).v2, .int .u32 (A0).r2, .int .u32 (A0).f2, .slice none 0 0])) (by simp [results, Try.results23, go_sem, t0, t1, t2, t3, t4, t5, t6, t7, t8, t9, t10]) rfl ⟨rfl, (by repeat' (first | with_reducible exact Below.refl _ _ | with_reducible assumption | with_reducible refine Below.alloc ?_ ?_ _ | with_reducible refine Below.setCell ?_ ?_ _ | with_reducible refine Below.drew ?_ | with_reducible refine below_drewN ?_ _ | with_reducible refine Below.trans ?_ (Below.mono (by with_reducible assumption) ?_) | omega | (simp <;> omega)))⟩
end Go.Proofs.Ytmjkopejbdipcaa
namespace Go.Proofs.Ytmjkopejbdipcaa
set_option linter.unusedSimpArgs false
set_option linter.unusedVariables false
/-- A memory word. -/
structure W3 where
  v : Int
  r : Int
  f : Int
deriving DecidableEq
def W3.ok (x : W3) : Prop := -9223372036854775808 ≤ x.v ∧ x.v ≤ 9223372036854775807 ∧ 0 ≤ x.r ∧ x.r < 4294967296 ∧ 0 ≤ x.f ∧ x.f < 4294967296
def z3 : W3 := ⟨0, 0, 0⟩
def w3c (x : W3) : List Value := [.int .i64 x.v, .int .u32 x.r, .int .u32 x.f]
end Go.Proofs.Ytmjkopejbdipcaa
namespace Go.Proofs.Ytmjkopejbdipcaa
set_option linter.unusedSimpArgs false
set_option linter.unusedVariables false
open Go.RowKit Go.Maps
theorem grown_cell {w w' : World} {row : Option Nat} (hg : w.grownBy w' row) {b : Nat} (hb : b < w.heap.size) (hne : some b ≠ row) : (∀ o, w'.cell? ⟨b, o, none⟩ = w.cell? ⟨b, o, none⟩) ∧ (∀ o, w'.frozen? ⟨b, o, none⟩ = w.frozen? ⟨b, o, none⟩) :=
  ⟨fun o => World.cell?_of_block (hg.block b hb hne), fun o => World.frozen?_of_block (hg.block b hb hne)⟩
/-- A key that is no location below L. -/
def badKey (L : Nat) (p : Lit × DataW Unit) : Bool := match p.1 with
  | .int .i64 x => !(decide (0 ≤ x) && decide (x < (L : Int)))
  | _ => true
theorem good_key {L : Nat} {p : Lit × DataW Unit} (h : badKey L p = false) : ∃ x : Int, p.1 = .int .i64 x ∧ 0 ≤ x ∧ x < (L : Int) := by
  obtain ⟨k, d⟩ := p
  unfold badKey at h
  simp only at h
  split at h
  · rename_i x
    simp at h
    exact ⟨x, rfl, h.1, h.2⟩
  · cases h
theorem good_of {L : Nat} {x : Int} (d : DataW Unit) (h0 : 0 ≤ x) (h1 : x < (L : Int)) : badKey L (.int .i64 x, d) = false := by simp [badKey, h0, h1]
/-- A map whose keys are locations below L. -/
def KeysIn (D : DataW Unit) (L : Nat) : Prop := ∃ es, D = .map es ∧ es.any (badKey L) = false
theorem KeysIn.empty (L : Nat) : KeysIn (.map []) L := ⟨[], rfl, rfl⟩
theorem KeysIn.isMap {D : DataW Unit} {L : Nat} (h : KeysIn D L) : IsMap D := let ⟨es, e, _⟩ := h; ⟨es, e⟩
theorem any_filter_no {α : Type} {f g : α → Bool} {l : List α} (h : l.any f = false) : (l.filter g).any f = false := by
  rw [List.any_eq_false] at h ⊢
  exact fun x hx => h x (List.mem_filter.1 hx).1
theorem KeysIn.put {D : DataW Unit} {L : Nat} (h : KeysIn D L) {x : Int} (h0 : 0 ≤ x) (h1 : x < (L : Int)) (d : DataW Unit) : KeysIn (D.put (.int .i64 x) d) L := by
  obtain ⟨es, rfl, he⟩ := h
  refine ⟨_, rfl, ?_⟩
  rw [any_insert, good_of d h0 h1, any_filter_no he]
  rfl
theorem KeysIn.has {D : DataW Unit} {L : Nat} (h : KeysIn D L) {kl : Lit} (hk : Maps.has D kl = true) : ∃ x : Int, kl = .int .i64 x ∧ 0 ≤ x ∧ x < (L : Int) := by
  obtain ⟨es, rfl, he⟩ := h
  rw [has_eq, List.any_eq_true] at hk
  obtain ⟨p, hp, hs⟩ := hk
  obtain ⟨x, e, h0, h1⟩ := good_key (by simpa using List.any_eq_false.1 he p hp)
  exact ⟨x, by rw [← WideAt.sameKey_eq hs, e], h0, h1⟩
theorem size_le : ∀ (L : Nat) {D : DataW Unit}, Tidy D → KeysIn D L → Maps.size D ≤ L
  | 0, D, _, h => by
    obtain ⟨es, rfl, he⟩ := h
    cases es with
    | nil => exact Nat.le_refl _
    | cons p l =>
      obtain ⟨x, _, h0, h1⟩ := good_key (L := 0) (p := p) (by rw [List.any_cons, Bool.or_eq_false_iff] at he; exact he.1)
      omega
  | L + 1, D, ht, h => by
    have hd := size_del (k := .int .i64 (L : Int)) ht
    have hk : KeysIn (D.del (.int .i64 (L : Int))) L := by
      obtain ⟨es, rfl, he⟩ := h
      refine ⟨_, rfl, ?_⟩
      rw [List.any_eq_false]
      intro p hp
      obtain ⟨hp1, hp2⟩ := List.mem_filter.1 hp
      obtain ⟨x, e, h0, h1⟩ := good_key (L := L + 1) (p := p) (by simpa using List.any_eq_false.1 he p hp1)
      rw [e] at hp2
      have hne : x ≠ (L : Int) := by
        rintro rfl
        simp [Lit.sameKey] at hp2
      obtain ⟨k, d⟩ := p
      have e' : k = .int .i64 x := e
      subst e'
      rw [good_of d h0 (by omega)]
      decide
    have := size_le L (ht.del (.int .i64 (L : Int))) hk
    split at hd <;> omega
theorem own_fit {w : World} {k e : TypeId} {b n L : Nat} {D : DataW Unit} (h : w.ownsMap Try.prog k (plainElem Try.prog e) b n D) (K : Keyed Try.prog k) (hk : KeysIn D L) : w.ownsMap Try.prog k (plainElem Try.prog e) b L D := by
  have ht := h.tidy K
  have hs := size_le L ht hk
  obtain ⟨es, clock, hb, F, _, rfl⟩ := h
  refine ⟨es, clock, hb, F, ?_, rfl⟩
  rw [size_eq, length_sorted, List.length_map] at hs
  simpa using hs
/-- A view: its map and the index of each location; L locations. -/
structure VwV where
  v : Option Nat
  f : Int → Int
def VwV.R (L : Nat) (w : World) (a : VwV) : Prop := (∀ z, 0 ≤ a.f z ∧ (z < 0 ∨ (L : Int) ≤ z → a.f z = 0)) ∧ ((a.v = none ∧ ∀ z, a.f z = 0) ∨ ∃ (b : Nat) (D : DataW Unit), a.v = some b ∧ w.ownsMap Try.prog 64 (plainElem Try.prog 3) b L D ∧ KeysIn D L ∧ ∀ z, (Lit.int .i64 z).wf = true → D.atKey (.int .i64 z) (.lit (.int .i64 0)) = .lit (.int .i64 (a.f z)))
theorem VwV.R.mapF {L : Nat} {w : World} {a : VwV} (h : a.R L w) : MapF w 64 a.v L a.f := by
  rcases h.2 with ⟨e, hf⟩ | ⟨b, D, e, h1, h2, h3⟩
  · exact .inl ⟨e, hf⟩
  · exact .inr ⟨b, D, e, h1, h2.isMap, h3⟩
theorem VwV.R.below {L : Nat} {w w' : World} {a : VwV} (h : a.R L w) (hb : Below w.heap.size w w') : a.R L w' := by
  refine ⟨h.1, ?_⟩
  rcases h.2 with h | ⟨b, D, e, h1, h2⟩
  · exact .inl h
  · exact .inr ⟨b, D, e, h1.kept (grown_of_below hb none) (by simp), h2⟩
theorem VwV.R.setCell {L : Nat} {w : World} {a : VwV} (h : a.R L w) {p : Addr} {u : Value} (hc : w.cell? p = some u) (x : Value) : a.R L (w.setCell p x) := by
  refine ⟨h.1, ?_⟩
  rcases h.2 with h | ⟨b, D, e, h1, h2⟩
  · exact .inl h
  · refine .inr ⟨b, D, e, h1.setCell ?_ x, h2⟩
    rintro rfl
    obtain ⟨c, t, fr, hb⟩ := block_of_cell hc
    obtain ⟨es, clock, hb', _⟩ := h1
    rw [hb] at hb'
    cases hb'
theorem VwV.R.nil (L : Nat) (w : World) : VwV.R L w ⟨none, fun _ => 0⟩ := ⟨fun _ => ⟨Int.le_refl _, fun _ => rfl⟩, .inl ⟨rfl, fun _ => rfl⟩⟩
set_option maxRecDepth 100000 in
theorem clone_own {n b : Nat} {D : DataW Unit} (w : World) (hown : w.ownsMap Try.prog 64 (plainElem Try.prog 3) b n D) :
    Calls Try.prog 49 #[.map (some b)] w fun e w' => e = .returned (.map (some w.heap.size)) ∧ w'.ownsMap Try.prog 64 (plainElem Try.prog 3) w.heap.size n D ∧ w.heap.size < w'.heap.size ∧ Below w.heap.size w w' := by
  have hq := fun (w : World) (r : Option Nat) => run_eql_map_nil (P := Try.prog) w _ _ _ r Try.underlying77
  obtain ⟨es, clock, hb, F, hs, hD⟩ := hown
  have hta := fun (W : World) (v : Value) => typeAssert_map W 77 20 _ _ v Try.underlying77
  go_enter Try.func49, Try.ntmps49
  go_wp2
  rw [extern_clone w 77 b es clock hb]
  (try simp only [Result.andThen])
  rw [Oper.upon_value]
  go_wp2
  go_ret
  exact ⟨rfl, ⟨es, clock, (MapKept.heap_alloc w _).1, F, hs, hD⟩, by simp, (Below.refl _ _).alloc (Nat.le_refl _) _⟩
set_option maxRecDepth 100000 in
theorem clone_nil (w : World) : Calls Try.prog 49 #[.map none] w fun e w' => e = .returned (.map none) ∧ w' = w := by
  have hq := fun (w : World) (r : Option Nat) => run_eql_map_nil (P := Try.prog) w _ _ _ r Try.underlying77
  go_enter Try.func49, Try.ntmps49
  go_wp2
  go_ret
  exact ⟨rfl, rfl⟩
end Go.Proofs.Ytmjkopejbdipcaa
namespace Go.Proofs.Ytmjkopejbdipcaa
set_option linter.unusedSimpArgs false
set_option linter.unusedVariables false
open Go.RowKit Go.Maps
/-- A new block holds what it was made of. -/
theorem alloc_cell (W : World) (cs : Array Value) (t : TypeId) {b j : Nat} {u : Value} (hb : b = W.heap.size) (hu : cs.toList[j]? = some u) : (W.alloc (.cells cs t)).cell? ((⟨b, 0, none⟩ : Addr).add j) = some u := by
  subst hb
  have h : (⟨W.heap.size, 0, none⟩ : Addr).add j = ⟨W.heap.size, j, none⟩ := by unfold Addr.add; simp only [Nat.zero_add]; split <;> simp_all
  rw [h]
  have hh : (W.alloc (.cells cs t)).heap[W.heap.size]? = some (.cells cs t (0, 0)) := heap_alloc_new W _
  have hc : cs[j]? = some u := by rw [← Array.getElem?_toList]; exact hu
  simp only [World.cell?, hh]
  exact hc
/-- A message: its word, its author, its view. -/
structure MsgV where
  x : W3
  t : Int
  a : VwV
def msgc (m : MsgV) : List Value := [.int .i64 m.x.v, .int .u32 m.x.r, .int .u32 m.x.f, .int .i64 m.t, .map m.a.v]
theorem msgc_len (m : MsgV) : (msgc m).length = 5 := rfl
/-- A history: where its messages lie, its room, the messages. -/
structure HistV where
  A : Option Addr
  cap : Nat
  l : List MsgV
def HistV.R (L : Nat) (w : World) (h : HistV) : Prop := h.l.length ≤ h.cap ∧ (h.A = none → h.l.length = 0) ∧ Rd w w.heap.size 5 h.A h.l.length (h.l.flatMap msgc) ∧ ∀ m ∈ h.l, m.a.R L w
theorem HistV.R.below {L : Nat} {w w' : World} {h : HistV} (hr : h.R L w) (hb : Below w.heap.size w w') : h.R L w' :=
  ⟨hr.1, hr.2.1, (hr.2.2.1.below hb).more hb.size, fun m hm => (hr.2.2.2 m hm).below hb⟩
/-- A memory: where the histories and the views lie, their rooms, what they hold. -/
structure MemV where
  pA : Option Addr
  pc : Nat
  hs : List HistV
  vA : Option Addr
  vc : Nat
  vs : List VwV
def histv (h : HistV) : Value := .slice h.A h.l.length h.cap
def vwv (a : VwV) : Value := .map a.v
def MemV.R (w : World) (m : MemV) : Prop := (m.hs.length ≤ m.pc ∧ (m.pA = none → m.hs.length = 0) ∧ Rd w w.heap.size 1 m.pA m.hs.length (m.hs.map histv) ∧ ∀ h ∈ m.hs, h.R m.hs.length w) ∧ (m.vs.length ≤ m.vc ∧ (m.vA = none → m.vs.length = 0) ∧ Rd w w.heap.size 1 m.vA m.vs.length (m.vs.map vwv) ∧ ∀ a ∈ m.vs, a.R m.hs.length w)
theorem MemV.R.below {w w' : World} {m : MemV} (h : m.R w) (hb : Below w.heap.size w w') : m.R w' :=
  ⟨⟨h.1.1, h.1.2.1, (h.1.2.2.1.below hb).more hb.size, fun x hx => (h.1.2.2.2 x hx).below hb⟩, ⟨h.2.1, h.2.2.1, (h.2.2.2.1.below hb).more hb.size, fun x hx => (h.2.2.2.2 x hx).below hb⟩⟩
/-- Element k of a slice of one-cell elements. -/
theorem Rd.one {α : Type} {w : World} {B n : Nat} {A : Option Addr} {g : α → Value} {l : List α} (h : Rd w B 1 A n (l.map g)) {k : Nat} {a : α} (hk : k < n) (ha : l[k]? = some a) : ∃ b off, A = some ⟨b, off, none⟩ ∧ b < B ∧ w.cell? ⟨b, off + k, none⟩ = some (g a) := by
  obtain ⟨b, off, e, hB, hc⟩ := h.2 (by omega)
  exact ⟨b, off, e, hB, hc k _ (by rw [List.getElem?_map, ha]; rfl)⟩
end Go.Proofs.Ytmjkopejbdipcaa
