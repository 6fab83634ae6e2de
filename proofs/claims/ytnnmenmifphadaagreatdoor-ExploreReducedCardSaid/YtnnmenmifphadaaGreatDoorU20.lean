/- Package memory: with, finds. -/
import Derived.Test.YtnnmenmifphadaaGreatDoorU12
import Derived.Test.YtnnmenmifphadaaGreatDoorU18
set_option linter.unusedSimpArgs false
set_option linter.unusedVariables false
set_option maxRecDepth 100000
set_option maxHeartbeats 40000000
namespace Go.Proofs.YtnnmenmifphadaaGreatDoor
open Go.RowKit Go.Maps
theorem info_view : (Tryz.prog.info? 121).map (fun i => (i.zero, i.size, i.bytes)) = some (some (.agg #[.map none]), 1, 8) := by kernel_rfl
theorem Rd.set {α : Type} {w : World} {B b n k : Nat} {g : α → Value} {l : List α} (h : Rd w B 1 (some ⟨b, 0, none⟩) n (l.map g)) (hk : k < n) (a : α) : Rd (w.setCell ⟨b, k, none⟩ (g a)) B 1 (some ⟨b, 0, none⟩) n ((l.set k a).map g) := by
 obtain ⟨h1, h2⟩ := h
 rw [List.length_map] at h1
 refine ⟨by rw [List.length_map, List.length_set]; exact h1, fun hn => ?_⟩
 obtain ⟨b', off, e, hB, hc⟩ := h2 hn
 injection e with e
 injection e with e1 e2
 subst e1 e2
 refine ⟨b, 0, rfl, hB, fun j u hu => ?_⟩
 rw [List.getElem?_map] at hu
 rw [Nat.zero_add]
 by_cases hj : j = k
 ·subst hj
  rw [List.getElem?_set_self oM] at hu
  injection hu with hu
  subst hu
  obtain ⟨x, hx⟩ : ∃ x, l[j]? = some x := ⟨_, List.getElem?_eq_getElem oM⟩
  have hold := hc j (g x) (by rw [List.getElem?_map, hx]; rfl)
  rw [Nat.zero_add] at hold
  simp [go_sem, hold]
 ·rw [List.getElem?_set_ne (fun e => hj oM)] at hu
  rw [World.cell?_setCell_other _ _ _ _ (by intro e; injection e with _ e; exact hj e.symm)]
  have := hc j u (by rw [List.getElem?_map]; exact hu)
  rwa [Nat.zero_add] at this
theorem splice_whole {α : Type} (cur cs : List α) (h : cs.length = cur.length) : splice cur 0 cs = cs := by simp [splice, h]
theorem rd_of_row {w : World} {g n : Nat} {xs : List Value} {t : TypeId} (h : w.heap[g]? = some (.cells xs.toArray t (0, 0))) (hl : xs.length = n * 1) : Rd w w.heap.size 1 (some ⟨g, 0, none⟩) n xs :=
 ⟨hl, fun _ => ⟨g, 0, rfl, (Array.getElem?_eq_some_iff.1 h).1, fun j u hu => by
  rw [Nat.zero_add]
  simp only [World.cell?, h]
  simpa using hu⟩⟩
theorem frozen_of_row {w : World} {g : Nat} {xs : List Value} {t : TypeId} (h : w.heap[g]? = some (.cells xs.toArray t (0, 0))) (o : Nat) : w.frozen? ⟨g, o, none⟩ = false := by
 simp [World.frozen?, h]
theorem cell_of_row {w : World} {g k : Nat} {xs : List Value} {t : TypeId} (h : w.heap[g]? = some (.cells xs.toArray t (0, 0))) (hk : k < xs.length) : ∃ u, w.cell? ⟨g, k, none⟩ = some u := ⟨xs[k], by simp [World.cell?, h, hk]⟩
def MemV.with (m : MemV) (A : Option Addr) (c t : Nat) (a : VwV) : MemV := ⟨m.pA, m.pc, m.hs, A, c, m.vs.set t a⟩
theorem MemV.with_R {m : MemV} {w w' : World} {g t n : Nat} {a : VwV} (h : m.R w) (hb : Below w.heap.size w w') (hn : m.vs.length = n) (hr : Rd w' w'.heap.size 1 (some ⟨g, 0, none⟩) n ((m.vs.set t a).map vwv)) (ha : a.R m.hs.length w') : (m.with (some ⟨g, 0, none⟩) n t a).R w' := by
 have hF := h.below hb
 have e1 : (m.vs.set t a).length = n := by rw [List.length_set, hn]
 refine ⟨hF.1, ?_⟩
 show (m.vs.set t a).length ≤ n ∧ ((some ⟨g, 0, none⟩ : Option Addr) = none → (m.vs.set t a).length = 0) ∧ Rd w' w'.heap.size 1 (some ⟨g, 0, none⟩) (m.vs.set t a).length ((m.vs.set t a).map vwv) ∧ ∀ x ∈ m.vs.set t a, x.R m.hs.length w'
 rw [e1]
 refine ⟨Nat.le_refl n, (fun e => by cases e), hr, (fun x hx => ?_)⟩
 rcases List.mem_or_eq_of_mem_set hx with hx | rfl
 ·exact hF.2.2.2.2 x hx
 ·exact ha
theorem MemV.with_rd {m : MemV} {w : World} {g t n : Nat} {a : VwV} (h : (m.with (some ⟨g, 0, none⟩) n t a).R w) (hn : m.vs.length = n) : Rd w w.heap.size 1 (some ⟨g, 0, none⟩) n ((m.vs.set t a).map vwv) := by
 have h1 : Rd w w.heap.size 1 (some ⟨g, 0, none⟩) (m.vs.set t a).length ((m.vs.set t a).map vwv) := h.2.2.2.1
 rwa [List.length_set, hn] at h1
theorem mem_with (m : MemV) (t : Nat) (a : VwV) (w : World) (hR : m.R w) (ht : t < m.vs.length) (hn : m.vs.length ≤ 1000) (ha : a.R m.hs.length w) : Calls Tryz.prog 169 #[(.agg #[.slice (m).pA (m).hs.length (m).pc, .slice (m).vA (m).vs.length (m).vc]), .int .i64 ((t : Int) + 1), .agg #[.map a.v]] w fun e w' => ∃ g, e = .returned (.agg #[.slice m.pA m.hs.length m.pc, .slice (some ⟨g, 0, none⟩) m.vs.length m.vs.length]) ∧ w.heap.size ≤ g ∧ (m.with (some ⟨g, 0, none⟩) m.vs.length t a).R w' ∧ Below w.heap.size w w' := by
 obtain ⟨i0, hi, iz0, iz1, iz2⟩ := info_parts info_view
 obtain ⟨pA, pc, hs, vA, vc, vs⟩ := m
 obtain ⟨n, hvn⟩ : ∃ n, n = vs.length := ⟨_, rfl⟩
 simp only at ht hn ha
 have HR := hide hR
 have Ha := hide ha
 obtain ⟨-, hvc, hvA, hrd, -⟩ := hR
 simp only at hvc hvA hrd
 rw [← hvn] at hrd ht hn hvc
 simp only [← hvn]
 have hxl : (vs.map vwv).length = n * 1 := by rw [List.length_map, ← hvn, Nat.mul_one]
 have hx1 : ∀ v ∈ vs.map vwv, v.oneCell' = true := by
  intro v hv
  obtain ⟨x, -, rfl⟩ := List.mem_map.1 hv
  rfl
 have hsrc := Rd.src hrd n (Nat.le_refl _)
 have Hsrc := hide hsrc
 have Hxl := hide hxl
 have Hvn := hide hvn
 have Hrd := hide hrd
 have h0 : (0 : Int) ≤ (t : Int) := by omega
 have h1 : (t : Int) < (n : Int) := by omega
 have hw1 : IntKind.i64.wrap ((t : Int) + 1 - 1) = (t : Int) := by rw [show (t : Int) + 1 - 1 = (t : Int) by omega]; exact IntWalk.i64_in _ oM
 have hw2 : IntKind.i64.wrap (t : Int) = (t : Int) := IntWalk.i64_in _ oM
 clear hrd hsrc hxl hvn ha
 go_enter Tryz.func169, Tryz.ntmps169
 go_wp2_with (first
  | (at_make; refine wpList_make_full _ rfl _ _ 27 rfl w.heap.size 121 i0 _ 1 Tryz.underlying27 hi iz0 iz1 _ _ _ _ n rfl rfl rfl rfl (by rw [iz2]; omega) (by unfold maxLen; omega) (by simp; omega) ?_; intro w1 hown hgr; have hb1 := Below.grown (Below.refl _ _) hgr (Nat.le_refl _) (fun k hk => by cases hk); obtain ⟨hcc1, hff1, hs1⟩ := bC hb1; (try simp at hs1); obtain ⟨hrow, -⟩ := row_of_own hown; have hmz : (madeCells (Value.agg #[Value.map none]).cells (n * 1)).toList.length = n * 1 := hown.1; obtain ⟨cur, hcur⟩ : ∃ cur, cur = (madeCells (Value.agg #[Value.map none]).cells (n * 1)).toList := ⟨_, rfl⟩; rw [← hcur] at hrow hmz; have hrow1 : w1.heap[w.heap.size + 1 + 1 + 1]? = some (.cells cur.toArray 121 (0, 0)) := (by simpa using hrow); have Hrow := hide hrow1; have Hmz := hide hmz; have hlt1 : w.heap.size + 1 + 1 + 1 < w1.heap.size := (Array.getElem?_eq_some_iff.1 hrow1).1; have hB1 : Below w.heap.size w w1 := (by first | exact ab0); clear hrow1 hrow hown hgr hcur hmz; have hz1 : w.heap.size < w1.heap.size := oM)
  | (refine wpList_copy_rows rfl (.tmp 12) (.tmp 14) 27 27 rfl 121 Tryz.underlying27 i0 hi 1 iz1 _ _ _ _ _ _ rfl rfl (w.heap.size + 1 + 1 + 1) 0 cur 121 Hrow.out (vs.map vwv) n (Nat.min_self _).symm Hxl.out (fun h0 => ⟨rfl, by obtain ⟨ad, e, hc⟩ := Hsrc.out h0; refine ⟨ad, e, fun j v hv => ?_⟩; rw [List.take_of_length_le (by rw [Hxl.out]; omega)] at hc; exact (hB1.cell (by obtain ⟨b, off, e2, hb, _⟩ := Hrd.out.2 oM; rw [e] at e2; injection e2 with e2; subst e2; unfold Addr.add; split <;> exact hb)).trans (hc j v hv)⟩) (by rw [Hxl.out, Hmz.out]; omega) hx1 (w.heap.size + 1 + 1 + 1) w1 (Below.refl _ _) (Nat.le_refl _) ?_; intro w2 hrow2 hB2; rw [splice_whole cur (vs.map vwv) (by rw [Hxl.out, Hmz.out])] at hrow2; have hcc2 : ∀ b o, b < w.heap.size + 1 + 1 + 1 → w2.cell? ⟨b, o, none⟩ = w1.cell? ⟨b, o, none⟩ := (bcellB hB2).1; have hff2 : ∀ b o, b < w.heap.size + 1 + 1 + 1 → w2.frozen? ⟨b, o, none⟩ = w1.frozen? ⟨b, o, none⟩ := (bcellB hB2).2; have hlt2 : w.heap.size + 1 + 1 + 1 < w2.heap.size := (Array.getElem?_eq_some_iff.1 hrow2.out).1; have hRd2 : Hid (Rd w2 w2.heap.size 1 (some ⟨w.heap.size + 1 + 1 + 1, 0, none⟩) n (vs.map vwv)) := hide (rd_of_row hrow2.out Hxl.out); have hfz : ∀ o, w2.frozen? ⟨w.heap.size + 1 + 1 + 1, o, none⟩ = false := (frozen_of_row hrow2.out); obtain ⟨u0, hu0⟩ : ∃ u, w2.cell? ⟨w.heap.size + 1 + 1 + 1, t, none⟩ = some u := cell_of_row hrow2.out (by rw [Hxl.out]; omega); have e9 : (w2.setCell ⟨w.heap.size + 1 + 1 + 1, t, none⟩ (.map a.v)).cell? ⟨w.heap.size, 1, none⟩ = some (.slice vA n vc) := (by go_simp); have e8 : ∀ v, ((w2.setCell ⟨w.heap.size + 1 + 1 + 1, t, none⟩ (.map a.v)).setCell ⟨w.heap.size, 1, none⟩ v).cell? ⟨w.heap.size, 1, none⟩ = some v := (fun v => by simp [go_sem, e9])))
 obtain ⟨wF, hwF⟩ : ∃ wF : World, wF = ((((w2.setCell ⟨w.heap.size + 1 + 1 + 1, t, none⟩ (.map a.v)).setCell ⟨w.heap.size, 1, none⟩ (.slice (some ⟨w.heap.size + 1 + 1 + 1, 0, none⟩) n n)).setCell ⟨w.heap.size + 1 + 1, 0, none⟩ (.slice pA hs.length pc)).setCell ⟨w.heap.size + 1 + 1, 1, none⟩ (.slice (some ⟨w.heap.size + 1 + 1 + 1, 0, none⟩) n n)) := ⟨_, rfl⟩
 have hBF : Below w.heap.size w wF := by
  have h2 : Below w.heap.size w w2 := hB1.trans (hB2.mono oM)
  rw [hwF]
  exact ab0
 have hsF : wF.heap.size = w2.heap.size := by rw [hwF]; simp
 refine bodyPost_ret (v := .agg #[.slice pA hs.length pc, .slice (some ⟨w.heap.size + 1 + 1 + 1, 0, none⟩) n n]) (by simp [results, Tryz.results169, go_sem]; (try go_simp)) rfl ⟨_, rfl, by omega, ?_, ?_⟩
 ·rw [← hwF]
  have hRF := (HR.out.below hBF)
  have e1 : (vs.set t a).length = n := by rw [List.length_set, Hvn.out]
  refine ⟨hRF.1, ?_⟩
  show (vs.set t a).length ≤ n ∧ ((some ⟨w.heap.size + 1 + 1 + 1, 0, none⟩ : Option Addr) = none → (vs.set t a).length = 0) ∧ Rd wF wF.heap.size 1 (some ⟨w.heap.size + 1 + 1 + 1, 0, none⟩) (vs.set t a).length ((vs.set t a).map vwv) ∧ ∀ x ∈ vs.set t a, x.R hs.length wF
  rw [e1]
  refine ⟨Nat.le_refl n, (fun e => by cases e), ?_, (fun x hx => ?_)⟩
  ·rw [hsF, hwF]
   refine Rd.set_far (Rd.set_far (Rd.set_far (Rd.set hRd2.out ht a) oM _) oM _) oM _
  ·rcases List.mem_or_eq_of_mem_set hx with hx | rfl
   ·exact hRF.2.2.2.2 x hx
   ·exact Ha.out.below hBF
 ·rw [← hwF]
  exact hBF
def findF (j : Bool) (f g : Int → Int) (k i : Int) : Int → Int := if j then joinF (withF f k i) g else withF f k i
theorem mem_finds_yes (m : MemV) (t k i : Nat) (h : HistV) (g : MsgV) (a : VwV) (w : World) (hR : m.R w) (hh : m.hs[k]? = some h) (hg : h.l[i]? = some g) (ha : m.vs[t]? = some a) (hn : m.vs.length ≤ 1000) (hL : m.hs.length ≤ 4096) (hi6 : i ≤ 1000000) :
  Calls Tryz.prog 170 #[(.agg #[.slice (m).pA (m).hs.length (m).pc, .slice (m).vA (m).vs.length (m).vc]), .int .i64 ((t : Int) + 1), .int .i64 k, .int .i64 i, .bool true] w fun e w' => ∃ G v', e = .returned (.tuple #[.agg #[.slice m.pA m.hs.length m.pc, .slice (some ⟨G, 0, none⟩) m.vs.length m.vs.length], (w3V g.x)]) ∧ w.heap.size ≤ G ∧ (m.with (some ⟨G, 0, none⟩) m.vs.length t ⟨v', joinF (withF a.f k i) g.a.f⟩).R w' ∧ Below w.heap.size w w' := by
 have hkn : k < m.hs.length := (List.getElem?_eq_some_iff.1 hh).1
 have htn : t < m.vs.length := (List.getElem?_eq_some_iff.1 ha).1
 have hhR : h.R m.hs.length w := hR.1.2.2.2 h (List.mem_of_getElem? hh)
 have haR : a.R m.hs.length w := hR.2.2.2.2 a (List.mem_of_getElem? ha)
 have hgR : g.a.R m.hs.length w := hhR.2.2.2 g (List.mem_of_getElem? hg)
 obtain ⟨b, off, e, hb, c0⟩ := Rd.one hR.1.2.2.1 hkn hh
 obtain ⟨pA, pc, hs, vA, vc, vs⟩ := m
 simp only at e hkn htn hhR haR hgR hn hL hh ha
 subst e
 obtain ⟨m, hm⟩ : ∃ m, m = MemV.mk (some ⟨b, off, none⟩) pc hs vA vc vs := ⟨_, rfl⟩
 rw [← hm] at hR
 have hat := fun W (hw : h.R hs.length W) => hist_at hs.length h i g W hw hg
 have hseen := fun W (hw : m.R W) => mem_seen m t a W hw (by rw [hm]; exact ha) (by rw [hm]; exact hn)
 have hwith := fun W (hw : a.R hs.length W) => view_with hs.length hL a k i W hw oM oM (WalkArith.wf_i64 oM)
 have hmw := fun (x : VwV) W (hw : m.R W) (hx : x.R hs.length W) => mem_with m t x W hw (by rw [hm]; exact htn) (by rw [hm]; exact hn) (by rw [hm]; exact hx)
 have hjoin := fun (x : VwV) W (hx : x.R hs.length W) (hy : g.a.R hs.length W) => view_join hs.length hL x g.a W hx hy
 simp only [hm] at hseen hmw
 rw [hm] at hR
 have Hat := hide hat
 have Hseen := hide hseen
 have Hwith := hide hwith
 have Hmw := hide hmw
 have Hjoin := hide hjoin
 have HR := hide hR
 have Hh := hide hhR
 have HaR := hide haR
 have HgR := hide hgR
 have h0 : (0 : Int) ≤ (k : Int) := by omega
 have h1 : (k : Int) < (hs.length : Int) := by omega
 have hbz1 : b < w.heap.size + 1 := by omega
 have hbz2 : b < w.heap.size + 1 + 1 := by omega
 have hbz : b < w.heap.size + 1 + 1 + 1 := by omega
 unfold histv at c0
 clear hR hhR haR hgR hh hg ha hn hL hi6 hkn htn hm hat hseen hwith hmw hjoin
 go_enter Tryz.func170, Tryz.ntmps170
 go_wp2_with (first
  | (go_at_call 47; refine (Hseen.out _ (HR.out.below ab0)).mono ?_; rintro e w2 ⟨rfl, hb2⟩; obtain ⟨hcc2, hff2, hs2⟩ := bC hb2; (try simp at hs2); have hz2 : w.heap.size < w2.heap.size := oM; have hz2a : w.heap.size + 1 < w2.heap.size := oM; have hz2b : w.heap.size + 1 + 1 < w2.heap.size := oM; have hz2c : w1.heap.size < w2.heap.size := oM)
  | (go_at_call 167; refine (Hwith.out _ (HaR.out.below ab0)).mono ?_; rintro e w3 ⟨v3, rfl, hv3, hb3⟩; obtain ⟨hcc3, hff3, hs3⟩ := bC hb3; (try simp at hs3); have hz3 : w.heap.size < w3.heap.size := oM; have hz3a : w.heap.size + 1 < w3.heap.size := oM; have hz3b : w.heap.size + 1 + 1 < w3.heap.size := oM; have hz3c : w1.heap.size < w3.heap.size := oM; have Hv3 := hide hv3; clear hv3)
  | (go_at_call 178; refine (Hjoin.out ⟨v3, _⟩ _ (Hv3.out.below ab0) (HgR.out.below ab0)).mono ?_; rintro e w4 ⟨v4, rfl, hv4, hb4⟩; obtain ⟨hcc4, hff4, hs4⟩ := bC hb4; (try simp at hs4); have hz4 : w.heap.size < w4.heap.size := oM; have hz4a : w.heap.size + 1 < w4.heap.size := oM; have hz4b : w.heap.size + 1 + 1 < w4.heap.size := oM; have hz4c : w1.heap.size < w4.heap.size := oM; have hz4d : w3.heap.size < w4.heap.size := oM; have Hv4 := hide hv4; clear hv4)
  | (go_at_call 77; refine (Hat.out _ (Hh.out.below ab0)).mono ?_; rintro e w1 ⟨rfl, hb1⟩; obtain ⟨hcc1, hff1, hs1⟩ := bC hb1; (try simp at hs1); have hz1 : w.heap.size < w1.heap.size := oM; have hz1a : w.heap.size + 1 < w1.heap.size := oM; have hz1b : w.heap.size + 1 + 1 < w1.heap.size := oM))
 have x0 : w4.cell? ⟨w3.heap.size, 0, none⟩ = some (.map v3) := by go_simp
 obtain ⟨wa, hwa⟩ : ∃ wa : World, wa = w4.setCell ⟨w3.heap.size, 0, none⟩ (.map v4) := ⟨_, rfl⟩
 have q0 : wa.cell? ⟨w.heap.size, 0, none⟩ = some (.slice (some ⟨b, off, none⟩) hs.length pc) := by rw [hwa]; go_simp
 have q1 : wa.cell? ⟨w.heap.size, 1, none⟩ = some (.slice vA vs.length vc) := by rw [hwa]; go_simp
 have q2 : wa.cell? ⟨w3.heap.size, 0, none⟩ = some (.map v4) := by rw [hwa]; go_simp
 have q3 : wa.cell? ⟨w1.heap.size, 0, none⟩ = some (.int .i64 g.x.v) := by rw [hwa]; go_simp
 have q4 : wa.cell? ⟨w1.heap.size, 1, none⟩ = some (.int .u32 g.x.r) := by rw [hwa]; go_simp
 have q5 : wa.cell? ⟨w1.heap.size, 2, none⟩ = some (.int .u32 g.x.f) := by rw [hwa]; go_simp
 have r0 : wa.cell? ⟨w.heap.size + 1, 0, none⟩ = some (.slice none 0 0) := by rw [hwa]; go_simp
 have r1 : wa.cell? ⟨w.heap.size + 1, 1, none⟩ = some (.slice none 0 0) := by rw [hwa]; go_simp
 have r2 : wa.cell? ⟨w.heap.size + 1 + 1, 0, none⟩ = some (.int .i64 0) := by rw [hwa]; go_simp
 have r3 : wa.cell? ⟨w.heap.size + 1 + 1, 1, none⟩ = some (.int .u32 0) := by rw [hwa]; go_simp
 have r4 : wa.cell? ⟨w.heap.size + 1 + 1, 2, none⟩ = some (.int .u32 0) := by rw [hwa]; go_simp
 have f0 : ∀ o, wa.frozen? ⟨w.heap.size + 1, o, none⟩ = false := by intro o; rw [hwa]; go_simp
 have f1 : ∀ o, wa.frozen? ⟨w.heap.size + 1 + 1, o, none⟩ = false := by intro o; rw [hwa]; go_simp
 have hBa : Below w.heap.size w wa := by rw [hwa]; exact ab0
 have hVa : VwV.R hs.length wa ⟨v4, joinF (withF a.f k i) g.a.f⟩ := by rw [hwa]; exact Hv4.out.setCell x0 _
 have HVa := hide hVa
 have hza : wa.heap.size = w4.heap.size := by rw [hwa]; simp
 have hA0 : w.heap.size < wa.heap.size := by omega
 have hA1 : w.heap.size + 1 < wa.heap.size := by omega
 have hA2 : w.heap.size + 1 + 1 < wa.heap.size := by omega
 have hA3 : w3.heap.size < wa.heap.size := by omega
 have hA4 : w1.heap.size < wa.heap.size := by omega
 rw [← hwa]
 clear hwa hza hVa x0 hcc1 hcc2 hcc3 hcc4 hff1 hff2 hff3 hff4 hb1 hb2 hb3 hb4 Hv3 Hv4 Hat Hseen Hwith Hjoin
 refine wp_region_held_drew (S := (fun w' => (w'.cell? ⟨w.heap.size, 0, none⟩ = some (.slice (some ⟨b, off, none⟩) hs.length pc) ∧ w'.cell? ⟨w.heap.size, 1, none⟩ = some (.slice vA vs.length vc) ∧ w'.cell? ⟨w3.heap.size, 0, none⟩ = some (.map v4)) ∧ w'.cell? ⟨w1.heap.size, 0, none⟩ = some (.int .i64 g.x.v) ∧ w'.cell? ⟨w1.heap.size, 1, none⟩ = some (.int .u32 g.x.r) ∧ w'.cell? ⟨w1.heap.size, 2, none⟩ = some (.int .u32 g.x.f))) kR ab21 (fun hHeld => ?_)
 refine tq1 0 ?_
 refine tq1 1 ?_
 refine tq1 2 ?_
 refine tq1 4 ?_
 refine tq1 5 ?_
 refine wE 3 fun K hK => ?_
 go_simp
 (go_at_call 169; refine (Hmw.out ⟨v4, _⟩ _ (HR.out.below ab0) (HVa.out.below ab0)).mono ?_; rintro e w5 ⟨g5, rfl, hg5, hm5, hb5'⟩; (try simp at hg5); have hb5 : Below wa.heap.size wa w5 := ab9; clear hb5'; obtain ⟨hcc5, hff5, hs5⟩ := bC hb5; have Hm5 := hide (MemV.with_rd hm5 rfl); clear hm5; have hz5a : w.heap.size + 1 < w5.heap.size := oM; have hz5b : w.heap.size + 1 + 1 < w5.heap.size := oM)
 go_wp2_with fail
 refine oK hK ab21 fun hHeld => ?_
 clear hK K
 refine wE 6 fun K hK => ?_
 go_simp
 go_wp2_with fail
 refine oK hK ab21 fun hHeld => ?_
 clear hK K
 refine wE 7 fun K hK => ?_
 go_simp
 go_wp2_with fail
 refine oK hK ab21 fun hHeld => ?_
 clear hK K
 refine wD ?_
 all_goals go_wp2_with fail
 all_goals have s0 : ∀ u, (((w5.setCell ⟨w.heap.size + 1, 0, none⟩ (.slice (some ⟨b, off, none⟩) hs.length pc)).setCell ⟨w.heap.size + 1, 1, none⟩ (.slice (some ⟨g5, 0, none⟩) vs.length vs.length)).setCell ⟨w.heap.size + 1 + 1, 0, none⟩ u).heap.size = w5.heap.size := fun u => by simp
 all_goals refine bodyPost_ret (v := .tuple #[.agg #[.slice (some ⟨b, off, none⟩) hs.length pc, .slice (some ⟨g5, 0, none⟩) vs.length vs.length], (.agg #[.int .i64 (g.x).v, .int .u32 (g.x).r, .int .u32 (g.x).f])]) (by simp [results, Tryz.results170, go_sem]; (try go_simp)) rfl ⟨_, v4, rfl, by omega, MemV.with_R HR.out ab0 rfl ?_ ?_, ab0⟩
 all_goals first
  | (refine Rd.more (Rd.set_far (Rd.set_far (Rd.set_far (Rd.set_far (Rd.set_far Hm5.out ?_ _) ?_ _) ?_ _) ?_ _) ?_ _) sM <;> omega)
  | exact (((((HVa.out.below hb5).setCell (u := .slice none 0 0) (by go_simp) _).setCell (u := .slice none 0 0) (by go_simp) _).setCell (u := .int .i64 0) (by go_simp) _).setCell (u := .int .u32 0) (by go_simp) _).setCell (u := .int .u32 0) (by go_simp) _
def HasC (p : Addr) (w : World) : Prop := ∃ u, w.cell? p = some u
theorem HasC.of {p : Addr} {w : World} {u : Value} (h : w.cell? p = some u) : HasC p w := ⟨u, h⟩
theorem HasC.set {p q : Addr} {w : World} (h : HasC p w) (x : Value) : HasC p (w.setCell q x) := by
 obtain ⟨u, h⟩ := h
 by_cases e : p = q
 ·subst e
  exact ⟨x, World.cell?_setCell_same _ _ _ h⟩
 ·exact ⟨u, by rw [World.cell?_setCell_other _ _ _ _ (fun e2 => e (by first | exact e2 | exact e2.symm))]; exact h⟩
def NewV (L g n : Nat) (vs : List VwV) (a : VwV) (w : World) : Prop := Rd w w.heap.size 1 (some ⟨g, 0, none⟩) n (vs.map vwv) ∧ a.R L w
theorem NewV.of {m : MemV} {g n t : Nat} {a : VwV} {w : World} (hn : m.vs.length = n) (ht : t < n) (h : (m.with (some ⟨g, 0, none⟩) n t a).R w) : NewV m.hs.length g n (m.vs.set t a) a w := by
 have e1 : (m.vs.set t a).length = n := by rw [List.length_set, hn]
 have h1 : Rd w w.heap.size 1 (some ⟨g, 0, none⟩) (m.vs.set t a).length ((m.vs.set t a).map vwv) := h.2.2.2.1
 rw [e1] at h1
 exact ⟨h1, h.2.2.2.2 a (List.mem_of_getElem? (i := t) (by show (m.vs.set t a)[t]? = some a; rw [List.getElem?_set, if_pos rfl, if_pos oM]))⟩
theorem NewV.below {L g n : Nat} {vs : List VwV} {a : VwV} {w w' : World} (h : NewV L g n vs a w) (hb : Below w.heap.size w w') : NewV L g n vs a w' := ⟨(h.1.below hb).more hb.size, h.2.below hb⟩
theorem NewV.alloc {L g n : Nat} {vs : List VwV} {a : VwV} {w : World} (h : NewV L g n vs a w) (o : Array Value) (t : TypeId) : NewV L g n vs a (w.alloc (.cells o t)) := h.below (Below.alloc (Below.refl _ _) (Nat.le_refl _) _)
theorem NewV.rd {L g n : Nat} {vs : List VwV} {a : VwV} {w : World} (h : NewV L g n vs a w) : Rd w w.heap.size 1 (some ⟨g, 0, none⟩) n (vs.map vwv) := h.1
theorem NewV.r {L g n : Nat} {vs : List VwV} {a : VwV} {w : World} (h : NewV L g n vs a w) : a.R L w := h.2
theorem NewV.lt {L g n : Nat} {vs : List VwV} {a : VwV} {w : World} (h : NewV L g n vs a w) (hn : 0 < n) : g < w.heap.size := by
 obtain ⟨b, off, e, hb, _⟩ := h.1.2 oM
 injection e with e
 injection e with e _
 omega
theorem NewV.drew {L g n : Nat} {vs : List VwV} {a : VwV} {w : World} (h : NewV L g n vs a w) : NewV L g n vs a w.drew := h.below (Below.drew (Below.refl _ _))
theorem NewV.set {L g n c o : Nat} {vs : List VwV} {a : VwV} {w : World} (h : NewV L g n vs a w) (hne : c ≠ g) (hc : HasC ⟨c, o, none⟩ w) (x : Value) : NewV L g n vs a (w.setCell ⟨c, o, none⟩ x) := by
 obtain ⟨u, hc⟩ := hc
 refine ⟨?_, h.2.setCell hc x⟩
 have h1 := h.1.set_far (c := c) (o := o) hne x
 have e : (w.setCell ⟨c, o, none⟩ x).heap.size = w.heap.size := by simp
 rw [e]
 exact h1
theorem mem_finds_no (m : MemV) (t k i : Nat) (h : HistV) (g : MsgV) (a : VwV) (w : World) (hR : m.R w) (hh : m.hs[k]? = some h) (hg : h.l[i]? = some g) (ha : m.vs[t]? = some a) (hn : m.vs.length ≤ 1000) (hL : m.hs.length ≤ 4096) (hi6 : i ≤ 1000000) :
  Calls Tryz.prog 170 #[(.agg #[.slice (m).pA (m).hs.length (m).pc, .slice (m).vA (m).vs.length (m).vc]), .int .i64 ((t : Int) + 1), .int .i64 k, .int .i64 i, .bool false] w fun e w' => ∃ G v', e = .returned (.tuple #[.agg #[.slice m.pA m.hs.length m.pc, .slice (some ⟨G, 0, none⟩) m.vs.length m.vs.length], (w3V g.x)]) ∧ w.heap.size ≤ G ∧ (m.with (some ⟨G, 0, none⟩) m.vs.length t ⟨v', withF a.f k i⟩).R w' ∧ Below w.heap.size w w' := by
 have hkn : k < m.hs.length := (List.getElem?_eq_some_iff.1 hh).1
 have htn : t < m.vs.length := (List.getElem?_eq_some_iff.1 ha).1
 have hhR : h.R m.hs.length w := hR.1.2.2.2 h (List.mem_of_getElem? hh)
 have haR : a.R m.hs.length w := hR.2.2.2.2 a (List.mem_of_getElem? ha)
 have hgR : g.a.R m.hs.length w := hhR.2.2.2 g (List.mem_of_getElem? hg)
 obtain ⟨b, off, e, hb, c0⟩ := Rd.one hR.1.2.2.1 hkn hh
 obtain ⟨pA, pc, hs, vA, vc, vs⟩ := m
 simp only at e hkn htn hhR haR hgR hn hL hh ha
 subst e
 obtain ⟨m, hm⟩ : ∃ m, m = MemV.mk (some ⟨b, off, none⟩) pc hs vA vc vs := ⟨_, rfl⟩
 rw [← hm] at hR
 have hat := fun W (hw : h.R hs.length W) => hist_at hs.length h i g W hw hg
 have hseen := fun W (hw : m.R W) => mem_seen m t a W hw (by rw [hm]; exact ha) (by rw [hm]; exact hn)
 have hwith := fun W (hw : a.R hs.length W) => view_with hs.length hL a k i W hw oM oM (WalkArith.wf_i64 oM)
 have hmw := fun (x : VwV) W (hw : m.R W) (hx : x.R hs.length W) => mem_with m t x W hw (by rw [hm]; exact htn) (by rw [hm]; exact hn) (by rw [hm]; exact hx)
 simp only [hm] at hseen hmw
 rw [hm] at hR
 have Hat := hide hat
 have Hseen := hide hseen
 have Hwith := hide hwith
 have Hmw := hide hmw
 have HR := hide hR
 have Hh := hide hhR
 have HaR := hide haR
 have HgR := hide hgR
 have h0 : (0 : Int) ≤ (k : Int) := by omega
 have h1 : (k : Int) < (hs.length : Int) := by omega
 have hbz1 : b < w.heap.size + 1 := by omega
 have hbz2 : b < w.heap.size + 1 + 1 := by omega
 have hbz : b < w.heap.size + 1 + 1 + 1 := by omega
 unfold histv at c0
 clear hR hhR haR hgR hh hg ha hn hL hi6 hkn htn hm hat hseen hwith hmw
 go_enter Tryz.func170, Tryz.ntmps170
 go_wp2_with (first
  | (go_at_call 47; refine (Hseen.out _ (HR.out.below ab0)).mono ?_; rintro e w2 ⟨rfl, hb2⟩; obtain ⟨hcc2, hff2, hs2⟩ := bC hb2; (try simp at hs2); have hz2 : w.heap.size < w2.heap.size := oM; have hz2a : w.heap.size + 1 < w2.heap.size := oM; have hz2b : w.heap.size + 1 + 1 < w2.heap.size := oM; have hz2c : w1.heap.size < w2.heap.size := oM)
  | (go_at_call 167; refine (Hwith.out _ (HaR.out.below ab0)).mono ?_; rintro e w3 ⟨v3, rfl, hv3, hb3⟩; obtain ⟨hcc3, hff3, hs3⟩ := bC hb3; (try simp at hs3); have hz3 : w.heap.size < w3.heap.size := oM; have hz3a : w.heap.size + 1 < w3.heap.size := oM; have hz3b : w.heap.size + 1 + 1 < w3.heap.size := oM; have hz3c : w1.heap.size < w3.heap.size := oM; have Hv3 := hide hv3; clear hv3)
  | (go_at_call 77; refine (Hat.out _ (Hh.out.below ab0)).mono ?_; rintro e w1 ⟨rfl, hb1⟩; obtain ⟨hcc1, hff1, hs1⟩ := bC hb1; (try simp at hs1); have hz1 : w.heap.size < w1.heap.size := oM; have hz1a : w.heap.size + 1 < w1.heap.size := oM; have hz1b : w.heap.size + 1 + 1 < w1.heap.size := oM))
 obtain ⟨wa, hwa⟩ : ∃ wa : World, wa = w3.alloc (.cells #[.map v3] 121) := ⟨_, rfl⟩
 have q0 : wa.cell? ⟨w.heap.size, 0, none⟩ = some (.slice (some ⟨b, off, none⟩) hs.length pc) := by rw [hwa]; go_simp
 have q1 : wa.cell? ⟨w.heap.size, 1, none⟩ = some (.slice vA vs.length vc) := by rw [hwa]; go_simp
 have q2 : wa.cell? ⟨w3.heap.size, 0, none⟩ = some (.map v3) := by rw [hwa]; go_simp
 have q3 : wa.cell? ⟨w1.heap.size, 0, none⟩ = some (.int .i64 g.x.v) := by rw [hwa]; go_simp
 have q4 : wa.cell? ⟨w1.heap.size, 1, none⟩ = some (.int .u32 g.x.r) := by rw [hwa]; go_simp
 have q5 : wa.cell? ⟨w1.heap.size, 2, none⟩ = some (.int .u32 g.x.f) := by rw [hwa]; go_simp
 have r0 : wa.cell? ⟨w.heap.size + 1, 0, none⟩ = some (.slice none 0 0) := by rw [hwa]; go_simp
 have r1 : wa.cell? ⟨w.heap.size + 1, 1, none⟩ = some (.slice none 0 0) := by rw [hwa]; go_simp
 have r2 : wa.cell? ⟨w.heap.size + 1 + 1, 0, none⟩ = some (.int .i64 0) := by rw [hwa]; go_simp
 have r3 : wa.cell? ⟨w.heap.size + 1 + 1, 1, none⟩ = some (.int .u32 0) := by rw [hwa]; go_simp
 have r4 : wa.cell? ⟨w.heap.size + 1 + 1, 2, none⟩ = some (.int .u32 0) := by rw [hwa]; go_simp
 have f0 : ∀ o, wa.frozen? ⟨w.heap.size + 1, o, none⟩ = false := by intro o; rw [hwa]; go_simp
 have f1 : ∀ o, wa.frozen? ⟨w.heap.size + 1 + 1, o, none⟩ = false := by intro o; rw [hwa]; go_simp
 have hBa : Below w.heap.size w wa := by rw [hwa]; exact ab0
 have hVa : VwV.R hs.length wa ⟨v3, withF a.f k i⟩ := by rw [hwa]; exact Hv3.out.below (Below.alloc (Below.refl _ _) (Nat.le_refl _) _)
 have HVa := hide hVa
 have hza : wa.heap.size = w3.heap.size + 1 := by rw [hwa]; simp
 have hA0 : w.heap.size < wa.heap.size := by omega
 have hA1 : w.heap.size + 1 < wa.heap.size := by omega
 have hA2 : w.heap.size + 1 + 1 < wa.heap.size := by omega
 have hA3 : w3.heap.size < wa.heap.size := by omega
 have hA4 : w1.heap.size < wa.heap.size := by omega
 rw [← hwa]
 clear hwa hza hVa hcc1 hcc2 hcc3 hff1 hff2 hff3 hb1 hb2 hb3 Hv3 Hat Hseen Hwith
 refine wp_region_held_drew (S := (fun w' => (w'.cell? ⟨w.heap.size, 0, none⟩ = some (.slice (some ⟨b, off, none⟩) hs.length pc) ∧ w'.cell? ⟨w.heap.size, 1, none⟩ = some (.slice vA vs.length vc) ∧ w'.cell? ⟨w3.heap.size, 0, none⟩ = some (.map v3)) ∧ w'.cell? ⟨w1.heap.size, 0, none⟩ = some (.int .i64 g.x.v) ∧ w'.cell? ⟨w1.heap.size, 1, none⟩ = some (.int .u32 g.x.r) ∧ w'.cell? ⟨w1.heap.size, 2, none⟩ = some (.int .u32 g.x.f))) kR ab21 (fun hHeld => ?_)
 refine tq1 0 ?_
 refine tq1 1 ?_
 refine tq1 2 ?_
 refine tq1 4 ?_
 refine tq1 5 ?_
 refine wE 3 fun K hK => ?_
 go_simp
 (go_at_call 169; refine (Hmw.out ⟨v3, _⟩ _ (HR.out.below ab0) (HVa.out.below ab0)).mono ?_; rintro e w5 ⟨g5, rfl, hg5, hm5, hb5'⟩; (try simp at hg5); have hb5 : Below wa.heap.size wa w5 := ab9; clear hb5'; obtain ⟨hcc5, hff5, hs5⟩ := bC hb5; have Hm5 := hide (MemV.with_rd hm5 rfl); clear hm5; have hz5a : w.heap.size + 1 < w5.heap.size := oM; have hz5b : w.heap.size + 1 + 1 < w5.heap.size := oM)
 go_wp2_with fail
 refine oK hK ab21 fun hHeld => ?_
 clear hK K
 refine wE 6 fun K hK => ?_
 go_simp
 go_wp2_with fail
 refine oK hK ab21 fun hHeld => ?_
 clear hK K
 refine wE 7 fun K hK => ?_
 go_simp
 go_wp2_with fail
 refine oK hK ab21 fun hHeld => ?_
 clear hK K
 refine wD ?_
 all_goals go_wp2_with fail
 all_goals have s0 : ∀ u, (((w5.setCell ⟨w.heap.size + 1, 0, none⟩ (.slice (some ⟨b, off, none⟩) hs.length pc)).setCell ⟨w.heap.size + 1, 1, none⟩ (.slice (some ⟨g5, 0, none⟩) vs.length vs.length)).setCell ⟨w.heap.size + 1 + 1, 0, none⟩ u).heap.size = w5.heap.size := fun u => by simp
 all_goals refine bodyPost_ret (v := .tuple #[.agg #[.slice (some ⟨b, off, none⟩) hs.length pc, .slice (some ⟨g5, 0, none⟩) vs.length vs.length], (.agg #[.int .i64 (g.x).v, .int .u32 (g.x).r, .int .u32 (g.x).f])]) (by simp [results, Tryz.results170, go_sem]; (try go_simp)) rfl ⟨_, v3, rfl, by omega, MemV.with_R HR.out ab0 rfl ?_ ?_, ab0⟩
 all_goals first
  | (refine Rd.more (Rd.set_far (Rd.set_far (Rd.set_far (Rd.set_far (Rd.set_far Hm5.out ?_ _) ?_ _) ?_ _) ?_ _) ?_ _) sM <;> omega)
  | exact (((((HVa.out.below hb5).setCell (u := .slice none 0 0) (by go_simp) _).setCell (u := .slice none 0 0) (by go_simp) _).setCell (u := .int .i64 0) (by go_simp) _).setCell (u := .int .u32 0) (by go_simp) _).setCell (u := .int .u32 0) (by go_simp) _
theorem mem_finds (j : Bool) (m : MemV) (t k i : Nat) (h : HistV) (g : MsgV) (a : VwV) (w : World) (hR : m.R w) (hh : m.hs[k]? = some h) (hg : h.l[i]? = some g) (ha : m.vs[t]? = some a) (hn : m.vs.length ≤ 1000) (hL : m.hs.length ≤ 4096) (hi6 : i ≤ 1000000) :
  Calls Tryz.prog 170 #[(.agg #[.slice (m).pA (m).hs.length (m).pc, .slice (m).vA (m).vs.length (m).vc]), .int .i64 ((t : Int) + 1), .int .i64 k, .int .i64 i, .bool j] w fun e w' => ∃ G v', e = .returned (.tuple #[.agg #[.slice m.pA m.hs.length m.pc, .slice (some ⟨G, 0, none⟩) m.vs.length m.vs.length], (w3V g.x)]) ∧ w.heap.size ≤ G ∧ (m.with (some ⟨G, 0, none⟩) m.vs.length t ⟨v', findF j a.f g.a.f k i⟩).R w' ∧ Below w.heap.size w w' := by
 cases j
 ·exact mem_finds_no m t k i h g a w hR hh hg ha hn hL hi6
 ·exact mem_finds_yes m t k i h g a w hR hh hg ha hn hL hi6
end Go.Proofs.YtnnmenmifphadaaGreatDoor
namespace Go.Proofs.YtnnmenmifphadaaGreatDoor
open Go.RowKit
def setFrom (w : World) (B k : Nat) : List Value → World
 | [] => w
 | x :: l => setFrom (w.setCell ⟨B, k, none⟩ x) B (k + 1) l
theorem setFrom_size (B : Nat) : ∀ (l : List Value) (k : Nat) (w : World), (setFrom w B k l).heap.size = w.heap.size
 | [], _, _ => rfl
 | x :: l, k, w => (setFrom_size B l (k + 1) _).trans sM
theorem below_setFrom {N B : Nat} {a : World} (hN : N ≤ B) : ∀ (l : List Value) (k : Nat) {w : World}, Below N a w → Below N a (setFrom w B k l)
 | [], _, _, h => h
 | x :: l, k, _, h => below_setFrom hN l (k + 1) (h.setCell (p := ⟨B, k, none⟩) hN x)
theorem BoxC.farFrom {B C : Nat} {cs : List Value} (hne : B ≠ C) : ∀ (l : List Value) (k : Nat) {w : World}, BoxC C cs w → BoxC C cs (setFrom w B k l)
 | [], _, _, h => h
 | x :: l, k, _, h => BoxC.farFrom hne l (k + 1) (h.far hne x)
theorem box_setFrom {B : Nat} : ∀ (l : List Value) (pre : List Value) (k : Nat) {w : World} {cs : List Value}, pre.length = k → cs.length = l.length → BoxC B (pre ++ cs) w → BoxC B (pre ++ l) (setFrom w B k l)
 | [], pre, k, w, cs, _, hl, h => by
  have : cs = [] := List.eq_nil_of_length_eq_zero hl
  subst this
  exact h
 | x :: l, pre, k, w, [], _, hl, h => by simp at hl
 | x :: l, pre, k, w, c :: cs, hp, hl, h => by
  have q := h.store (o := k) (by simp; omega) x
  rw [List.set_append_right _ _ oM, show k - pre.length = 0 by omega, List.set_cons_zero] at q
  have q2 := box_setFrom l (pre ++ [x]) (k + 1) (cs := cs) (by simp; omega) (by simpa using hl) (by simpa using q)
  rw [List.append_assoc] at q2
  exact q2
theorem BoxC.fill {B : Nat} {w : World} {cs vs : List Value} (h : BoxC B cs w) (hl : cs.length = vs.length) : BoxC B vs (setFrom w B 0 vs) := box_setFrom vs [] 0 rfl hl h
theorem keep_setFrom {P : World → Prop} {B n : Nat} (hP : ∀ (w : World) (o : Nat) (x : Value), HasC ⟨B, o, none⟩ w → P w → P (w.setCell ⟨B, o, none⟩ x)) : ∀ (l : List Value) (k : Nat) {w : World}, k + l.length ≤ n → BoxE B n w → P w → P (setFrom w B k l)
 | [], _, _, _, _, h => h
 | x :: l, k, w, hn, hb, h => keep_setFrom hP l (k + 1) (by simp at hn; omega) (hb.set (fun _ => by simp at hn; omega) x) (hP w k x (hb.at (by simp at hn; omega)) h)
end Go.Proofs.YtnnmenmifphadaaGreatDoor
