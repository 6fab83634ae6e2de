/- Package explore: Outcome. -/
import Derived.Test.YtnnmenmifphadaaGreatDoorU42
set_option linter.unusedSimpArgs false
set_option linter.unusedVariables false
set_option maxRecDepth 100000
set_option maxHeartbeats 40000000
namespace Go.Proofs.YtnnmenmifphadaaGreatDoor
open Go.RowKit Go.Maps Go.Sort
theorem info_str : (Tryz.prog.info? 9).map (fun i => (i.zero, i.size, i.bytes)) = some (some (.string ⟨#[]⟩), 1, 16) := by kernel_rfl
def bangT (k : Bool) : List UInt8 := if k then [] else [33]
def gotO (T : W3 → List UInt8) (g : GS) : List UInt8 := [32] ++ T ⟨g.v, g.r, g.f⟩ ++ bangT g.k
def taskO (T : W3 → List UInt8) (l : List GS) : List UInt8 := [59] ++ l.flatMap (gotO T)
def outT (T : W3 → List UInt8) (ws : List W3) (gs : List (List GS)) : List UInt8 := Lib.join (ws.map T) [32] ++ gs.flatMap (taskO T)
def strV (T : W3 → List UInt8) (x : W3) : Value := .string ⟨(T x).toArray⟩
theorem strV_one (T : W3 → List UInt8) (x : W3) : ∀ u ∈ [strV T x], u.oneCell' = true := by
 intro u hu
 simp only [List.mem_cons, List.not_mem_nil, or_false] at hu
 subst hu
 rfl
theorem str_app (a b : List UInt8) : (⟨a.toArray⟩ : ByteArray) ++ ⟨b.toArray⟩ = ⟨(a ++ b).toArray⟩ := by
 apply ByteArray.ext
 rw [ByteArray.data_append]
 simp
theorem map_take {α β : Type} {g : α → β} {l : List α} {k : Nat} {a : α} (h : l[k]? = some a) : (l.take (k + 1)).map g = (l.take k).map g ++ [g a] := by
 rw [List.take_add_one, h]
 simp
theorem join_ws (T : W3 → List UInt8) (ws : List W3) (g c : Nat) (w : World) (hr : Rd w w.heap.size 1 (some ⟨g, 0, none⟩) ws.length (ws.map (strV T))) (hc : ws.length ≤ c) (hlen : (Lib.join (ws.map T) [32]).length ≤ 140737488355328) (h0 : 0 < ws.length ∧ ws.length ≤ 4096) :
  Calls Tryz.prog 34 #[.slice (some ⟨g, 0, none⟩) ws.length c, .string ⟨#[32]⟩] w (Ret (.string ⟨(Lib.join (ws.map T) [32]).toArray⟩) w) := by
 obtain ⟨b, o, e, hb, hcl⟩ := hr.2 h0.1
 injection e with e
 injection e with e1 e2
 subst e1 e2
 have hm : (ws.map (fun x => (⟨(T x).toArray⟩ : ByteArray))).map (·.data.toList) = ws.map T := by
  rw [List.map_map]
  rfl
 have q := Tryz.strings_Join g 0 c (ws.map (fun x => (⟨(T x).toArray⟩ : ByteArray))) ⟨#[32]⟩ w (fun j x hx => by
  rw [List.getElem?_map, Option.map_eq_some_iff] at hx
  obtain ⟨y, hy, rfl⟩ := hx
  exact hcl j _ (by rw [List.getElem?_map, hy]; rfl)) hb (by rw [List.length_map]; omega) (by rw [List.length_map]; exact hc) (by rw [hm]; exact hlen)
 rw [hm, List.length_map] at q
 exact q
theorem abD7 {p : Prop} (h : p := by
 obtain ⟨j, rfl, hj, hs, HBj⟩ := hrel
 obtain ⟨pr3, hpr3⟩ : ∃ p, p = pre ++ [59] ++ (t.l.take j).flatMap (gotO T) := ⟨_, rfl⟩
 rw [← hpr3] at hs
 subst hs
 have Hpr3 := hide hpr3
 clear hpr3
 have hsj : w3.heap.size ≤ wr.heap.size := HBj.out.size
 by_cases hltj : (j : Int) < t.m
 ·have hj1 : j < t.m := by omega
  obtain ⟨g, hgj⟩ : ∃ g, t.l[j]? = some g := ⟨_, List.getElem?_eq_getElem (by rw [Hlm.out]; exact hj1)⟩
  obtain ⟨gA, cp2, e, _, hgA, hrd⟩ := own_some (own_below How.out HBj.out) oM
  injection e with e1 e2 e3
  subst e1 e3
  clear e2
  obtain ⟨b', o', e', hb', hc'⟩ := Rd.elem hrd gotc_len hj1 hgj
  injection e' with e'
  injection e' with e4 e5
  subst e4 e5
  have x0 : wr.cell? ⟨gA, 0 + j * 4, none⟩ = some (.int .i64 g.v) := hc' 0 _ rfl
  have x1 := hc' 1 _ rfl
  have x2 := hc' 2 _ rfl
  have x3 : wr.cell? ⟨gA, 0 + j * 4 + 3, none⟩ = some (.bool g.k) := hc' 3 _ rfl
  rw [Nat.zero_add] at x0 x1 x2 x3
  have htx := HT.out _ (HgP.out g (List.mem_of_getElem? hgj))
  have Htx := hide htx
  have hlg : pr3.length + (1 + (T ⟨g.v, g.r, g.f⟩).length) + (bangT g.k).length ≤ 140737488355328 := by
   have q1 := flat_le (g := gotO T) (l := t.l) (j + 1)
   rw [flat_take hgj] at q1
   have q2 := Hlp.out
   have q3 : (gotO T g).length = 1 + (T ⟨g.v, g.r, g.f⟩).length + (bangT g.k).length := by unfold gotO; simp only [List.length_append, List.length_cons, List.length_nil]
   have q4 : pr3.length = pre.length + 1 + ((t.l.take j).flatMap (gotO T)).length := by rw [Hpr3.out]; simp only [List.length_append, List.length_cons, List.length_nil]
   simp only [List.length_append] at q1
   omega
  have hgo : ∀ b, g.k = b → gotO T g = [32] ++ T ⟨g.v, g.r, g.f⟩ ++ bangT b := fun b e => by unfold gotO; rw [e]
  have HBjw := hide (HB3.out.trans (HBj.out.mono oM))
  have hzj : w.heap.size ≤ wr.heap.size := by omega
  have Hgj := hide hgj
  have Hgo := hide hgo
  have j1 : (0 : Int) ≤ (j : Int) := by omega
  clear hc' hrd htx hgj hgo
  obtain ⟨gt, hgt⟩ : ∃ x, x = T ⟨g.v, g.r, g.f⟩ := ⟨_, rfl⟩
  rw [← hgt] at hlg
  have Hgt := hide hgt
  clear hgt
  cases hgk : g.k with
  | true =>
   rw [hgk] at x3 hlg
   have hlg2 : pr3.length + (1 + gt.length) ≤ 140737488355328 := by omega
   have hgg := Hgo.out true hgk
   have heq : (⟨pr3.toArray⟩ : ByteArray) ++ (⟨#[32]⟩ ++ ⟨gt.toArray⟩) = ⟨(pre ++ [59] ++ (t.l.take (j + 1)).flatMap (gotO T)).toArray⟩ := by
    rw [flat_take Hgj.out, hgg, ← Hgt.out, ← List.append_assoc (pre ++ [59]), ← Hpr3.out, show (#[32] : Array UInt8) = [32].toArray from rfl, str_app, str_app]
    simp [bangT, List.append_assoc]
   have Heq := hide heq
   clear hlg hgk hgg heq
   go_wp2_with (first
    | (go_at_call 33; refine (Htx.out _ (HBjw.out.trans (Below.alloc (Below.refl _ _) hzj _))).mono ?_; rintro e w4 ⟨rfl, hb4⟩; rw [← Hgt.out]; obtain ⟨hcc4, hff4⟩ := bcell hb4; have Hb4 := hide hb4; have hs4 := hb4.size; (try simp at hs4); have hz4 : wr.heap.size < w4.heap.size := oM))
   have HB4 := hide (HBj.out.trans ((Below.alloc (Below.refl _ _) (Nat.le_refl _) _).trans (Hb4.out.mono sM) |>.mono hsj))
   have hsv := congrArg Value.string Heq.out
   first
    | exact ⟨⟨j + 1, by go_num, by omega, hsv, HB4⟩, by simp [intOf]; omega⟩
    | ((repeat apply Exists.intro); exact ⟨⟨j + 1, by go_num, by omega, hsv, HB4⟩, by simp [intOf]; omega⟩)
  | false =>
   rw [hgk] at x3 hlg
   have hlg2 : pr3.length + (1 + gt.length) + 1 ≤ 140737488355328 := by simp only [bangT, List.length_cons, List.length_nil, Bool.false_eq_true, if_false] at hlg; omega
   have hgg := Hgo.out false hgk
   have heq : (⟨pr3.toArray⟩ : ByteArray) ++ (⟨#[32]⟩ ++ ⟨gt.toArray⟩) ++ ⟨#[33]⟩ = ⟨(pre ++ [59] ++ (t.l.take (j + 1)).flatMap (gotO T)).toArray⟩ := by
    rw [flat_take Hgj.out, hgg, ← Hgt.out, ← List.append_assoc (pre ++ [59]), ← Hpr3.out, show (#[32] : Array UInt8) = [32].toArray from rfl, show (#[33] : Array UInt8) = [33].toArray from rfl, str_app, str_app, str_app]
    simp [bangT, List.append_assoc]
   have Heq := hide heq
   clear hlg hgk hgg heq
   go_wp2_with (first
    | (go_at_call 33; refine (Htx.out _ (HBjw.out.trans (Below.alloc (Below.refl _ _) hzj _))).mono ?_; rintro e w4 ⟨rfl, hb4⟩; rw [← Hgt.out]; obtain ⟨hcc4, hff4⟩ := bcell hb4; have Hb4 := hide hb4; have hs4 := hb4.size; (try simp at hs4); have hz4 : wr.heap.size < w4.heap.size := oM))
   have HB4 := hide (HBj.out.trans ((Below.alloc (Below.refl _ _) (Nat.le_refl _) _).trans (Hb4.out.mono sM) |>.mono hsj))
   have hsv := congrArg Value.string Heq.out
   first
    | exact ⟨⟨j + 1, by go_num, by omega, hsv, HB4⟩, by simp [intOf]; omega⟩
    | ((repeat apply Exists.intro); exact ⟨⟨j + 1, by go_num, by omega, hsv, HB4⟩, by simp [intOf]; omega⟩)
 ·obtain rfl : t.m = j := by omega
  have heq : pr3 = Lib.join (ws.map T) [32] ++ ((V.ts.map TaskV.l).take (k + 1)).flatMap (taskO T) := by
   rw [Hpr3.out, flat_take Htl.out, ← List.append_assoc, ← Hpre.out, ← Hlm.out, List.take_length]
   unfold taskO
   rw [List.append_assoc]
  have HBk := hide (HB3.out.trans (HBj.out.mono oM))
  have Heq := hide heq
  clear heq
  go_wp2_with fail
  have hsv := congrArg (fun l : List UInt8 => Value.string ⟨l.toArray⟩) Heq.out
  exact ⟨⟨.string ⟨pr3.toArray⟩, _, _, .int .i64 ((k : Int) + 1), ⟨k + 1, by first | rfl | go_num, by omega, hsv⟩, rfl, rfl, rfl, rfl⟩, by simp [intOf]; omega⟩) : p := h
theorem ex_outcome (T : W3 → List UInt8) (P : W3 → Prop) (V : WorldV) (ws : List W3) (w : World) (hR : V.R w) (hw : ∀ W, Below w.heap.size w W → Calls Tryz.prog 32 #[(maV V.M)] W fun e w' => ∃ v : Value, e = .returned v ∧ w'.ownsRow W.heap.size 66 3 v ws.length (ws.flatMap w3c) ∧ Below W.heap.size W w') (hl0 : 0 < ws.length) (hl : ws.length ≤ 4096) (hT : ∀ x, P x → ∀ W, Below w.heap.size w W → Calls Tryz.prog 33 #[(w3V x)] W (Ret (.string ⟨(T x).toArray⟩) W)) (hws : ∀ x ∈ ws, P x) (hgs : ∀ k ∈ V.ts, ∀ g ∈ k.l, P ⟨g.v, g.r, g.f⟩) (hn : V.ts.length ≤ 1000) (hgm : ∀ k ∈ V.ts, k.m ≤ 100000) (hlen : (outT T ws (V.ts.map TaskV.l)).length ≤ 140737488355328) :
  Calls Tryz.prog 14 #[(woV V)] w (Ret (.string ⟨(outT T ws (V.ts.map TaskV.l)).toArray⟩) w) := by
 obtain ⟨i0, hi, iz0, iz1, iz2⟩ := info_parts info_str
 have Hi := hide hi
 have HR := hide hR
 have Hw := hide hw
 have HT := hide hT
 have Hws := hide hws
 have Hgs := hide hgs
 have Hgm := hide hgm
 have Hlen := hide hlen
 clear hR hw hT hws hgs hgm hlen hi
 go_enter Tryz.func14, Tryz.ntmps14
 go_upto_region 3 with (first
  | (go_at_call 32; refine (Hw.out _ (Below.alloc (Below.refl _ _) (Nat.le_refl _) _)).mono ?_; rintro e w1 ⟨v, rfl, hrow, hb1⟩; obtain ⟨A, cp, rfl, hcp, hA⟩ := own_slice hrow; have Hrow := hide hrow; have Hb1 := hide hb1; have hs1 := hb1.size; (try simp at hs1); clear hrow hb1))
 have hob : w1.heap[w.heap.size]? = some (.cells #[.slice V.M.mem.pA V.M.mem.hs.length V.M.mem.pc, .slice V.M.mem.vA V.M.mem.vs.length V.M.mem.vc, .slice V.M.ln.fA V.M.ln.first.length V.M.ln.fc, .slice V.M.ln.lA V.M.ln.logs.length V.M.ln.lc, .map V.M.ln.asks, .slice V.M.sA V.M.steps.length V.M.sc, .int .i64 V.M.crashes, .slice V.tA V.ts.length V.tc, .slice V.sA V.ss.length V.sc] 40 (0, 0)) := (Hb1.out.block w.heap.size sM).trans (heap_new _ _ rfl)
 have HB1 : Hid (Below w.heap.size w w1) := hide ((Below.alloc (Below.refl _ _) (Nat.le_refl _) _).trans (Hb1.out.mono sM))
 have Hob := hide hob
 have Hrow1 := hide (ownsRow_base_a Hrow.out (show w.heap.size ≤ _ by simp))
 clear hob Hb1 Hrow
 go_loopw [3, 15] (fun v i wr => ∃ k : Nat, i = .int .i64 k ∧ k ≤ ws.length ∧ Hid (wr.ownsRow w1.heap.size 9 1 v k ((ws.take k).map (strV T))) ∧ Hid (Below w1.heap.size w1 wr)) (fun _ i _ => ws.length - (intOf i).toNat)
 case atStart => exact ⟨0, rfl, by omega, hide (World.ownsRow_nil _ _ _ _), hide (Below.refl _ _)⟩
 case round =>
  obtain ⟨k, rfl, hk, Hown, HB⟩ := hrel
  have hzb : w.heap.size < w1.heap.size := by omega
  have hsr : w1.heap.size ≤ wr.heap.size := HB.out.size
  have hzr : w.heap.size < wr.heap.size := by omega
  have HBr := hide (HB1.out.trans (HB.out.mono oM))
  by_cases hlt : (k : Int) < ws.length
  ·have hk1 : k < ws.length := by omega
   obtain ⟨x, hx⟩ : ∃ x, ws[k]? = some x := ⟨_, List.getElem?_eq_getElem hk1⟩
   obtain ⟨gA, cp2, e, _, hgA, hrd⟩ := own_some (own_below Hrow1.out HB.out) oM
   injection e with e1 e2 e3
   subst e1 e3
   clear e2
   obtain ⟨b', o', e', hb', hc'⟩ := Rd.elem hrd (fun a => (rfl : (w3c a).length = 3)) hk1 hx
   injection e' with e'
   injection e' with e4 e5
   subst e4 e5
   have x0 : wr.cell? ⟨gA, 0 + k * 3, none⟩ = some (.int .i64 x.v) := hc' 0 _ rfl
   have x1 := hc' 1 _ rfl
   have x2 := hc' 2 _ rfl
   rw [Nat.zero_add] at x0 x1 x2
   have htx := HT.out x (Hws.out x (List.mem_of_getElem? hx))
   have Htx := hide htx
   have Hx := hide hx
   have j0 : (0 : Int) ≤ (k : Int) := by omega
   clear hc' hrd htx hx
   have hi := Hi.out
   go_wp2_with (first
    | (go_at_call 33; refine (Htx.out _ (HBr.out.trans (Below.alloc (Below.refl _ _) oM _))).mono ?_; rintro e w2 ⟨rfl, hb2⟩; have Hb2 := hide hb2; have hs2 := hb2.size; (try simp at hs2); clear hb2)
    | (at_builtin; (refine wpList_append_own _ rfl _ _ 47 rfl w1.heap.size 9 i0 _ 1 16 Tryz.underlying47 hi iz0 iz1 iz2 rfl dM _ k ((ws.take k).map (strV T)) rfl (own_below Hown.out (((Below.alloc (Below.refl _ _) (Nat.le_refl _) _).trans (Hb2.out.mono sM)).trans (Below.alloc (Below.refl _ _) oM _))) ⟨w2.heap.size, 0, none⟩ 1 1 [strV T x] rfl rfl ?o2 ?o3 ?o4 ?o5 ?o6 ?_)))
   case o2 =>
    intro j u hj
    match j, hj with
    | 0, hj => simp at hj; subst hj; simp [Addr.add, strV]
    | (j + 1), hj => simp at hj
   case o3 => exact strV_one T x
   case o4 => unfold maxLen; omega
   case o5 => omega
   case o6 => simp; omega
   intro v' w5 hown' hg _
   have hown5 : w5.ownsRow w1.heap.size 9 1 v' (k + 1) ((ws.take (k + 1)).map (strV T)) := by
    rw [map_take Hx.out, List.map_take]
    exact hown'
   have hB5 : Below w1.heap.size w1 w5 := below_grown ((HB.out.trans ((((Below.alloc (Below.refl _ _) (Nat.le_refl _) _).trans (Hb2.out.mono sM)).trans (Below.alloc (Below.refl _ _) oM _)) |>.mono hsr))) hg (own_below Hown.out (((Below.alloc (Below.refl _ _) (Nat.le_refl _) _).trans (Hb2.out.mono sM)).trans (Below.alloc (Below.refl _ _) oM _))) (Nat.le_refl _) (by simp; omega)
   have Hown5 := hide hown5
   have HB5 := hide hB5
   clear hown' hg hown5 hB5 hi
   go_wp2_with fail
   first
    | exact ⟨⟨k + 1, by go_num, by omega, Hown5, HB5⟩, by simp [intOf]; omega⟩
    | ((repeat apply Exists.intro); exact ⟨⟨k + 1, by go_num, by omega, Hown5, HB5⟩, by simp [intOf]; omega⟩)
  ·obtain rfl : ws.length = k := by omega
   obtain ⟨gS, cS, e, hcS, hgS, hrS⟩ := own_some (by have q := Hown.out; rw [List.take_length] at q; exact q : wr.ownsRow w1.heap.size 9 1 _ ws.length (ws.map (strV T))) oM
   subst e
   have hjoin := join_ws T ws gS cS wr hrS hcS (by have q := Hlen.out; unfold outT at q; rw [List.length_append] at q; omega) ⟨by omega, by omega⟩
   have Hjoin := hide hjoin
   have hobr := (HB.out.block w.heap.size hzb).trans Hob.out
   have c0 : wr.cell? ⟨w.heap.size, 0, none⟩ = some (.slice V.M.mem.pA V.M.mem.hs.length V.M.mem.pc) := by simp [World.cell?, hobr]
   have c1 : wr.cell? ⟨w.heap.size, 1, none⟩ = some (.slice V.M.mem.vA V.M.mem.vs.length V.M.mem.vc) := by simp [World.cell?, hobr]
   have c2 : wr.cell? ⟨w.heap.size, 2, none⟩ = some (.slice V.M.ln.fA V.M.ln.first.length V.M.ln.fc) := by simp [World.cell?, hobr]
   have c3 : wr.cell? ⟨w.heap.size, 3, none⟩ = some (.slice V.M.ln.lA V.M.ln.logs.length V.M.ln.lc) := by simp [World.cell?, hobr]
   have c4 : wr.cell? ⟨w.heap.size, 4, none⟩ = some (.map V.M.ln.asks) := by simp [World.cell?, hobr]
   have c5 : wr.cell? ⟨w.heap.size, 5, none⟩ = some (.slice V.M.sA V.M.steps.length V.M.sc) := by simp [World.cell?, hobr]
   have c6 : wr.cell? ⟨w.heap.size, 6, none⟩ = some (.int .i64 V.M.crashes) := by simp [World.cell?, hobr]
   have c7 : wr.cell? ⟨w.heap.size, 7, none⟩ = some (.slice V.tA V.ts.length V.tc) := by simp [World.cell?, hobr]
   have c8 : wr.cell? ⟨w.heap.size, 8, none⟩ = some (.slice V.sA V.ss.length V.sc) := by simp [World.cell?, hobr]
   clear hjoin hrS Hown hobr
   go_upto_region 9 with (first
    | (go_at_call 34; refine Hjoin.out.mono ?_; rintro e w2 ⟨rfl, hb2⟩; have Hb2 := hide hb2; have hs2 := hb2.size; have hobr2 := (hb2.block w.heap.size hzr).trans ((HB.out.block w.heap.size hzb).trans Hob.out); have d0 : w2.cell? ⟨w.heap.size, 0, none⟩ = some (.slice V.M.mem.pA V.M.mem.hs.length V.M.mem.pc) := (by simp [World.cell?, hobr2]); have d1 : w2.cell? ⟨w.heap.size, 1, none⟩ = some (.slice V.M.mem.vA V.M.mem.vs.length V.M.mem.vc) := (by simp [World.cell?, hobr2]); have d2 : w2.cell? ⟨w.heap.size, 2, none⟩ = some (.slice V.M.ln.fA V.M.ln.first.length V.M.ln.fc) := (by simp [World.cell?, hobr2]); have d3 : w2.cell? ⟨w.heap.size, 3, none⟩ = some (.slice V.M.ln.lA V.M.ln.logs.length V.M.ln.lc) := (by simp [World.cell?, hobr2]); have d4 : w2.cell? ⟨w.heap.size, 4, none⟩ = some (.map V.M.ln.asks) := (by simp [World.cell?, hobr2]); have d5 : w2.cell? ⟨w.heap.size, 5, none⟩ = some (.slice V.M.sA V.M.steps.length V.M.sc) := (by simp [World.cell?, hobr2]); have d6 : w2.cell? ⟨w.heap.size, 6, none⟩ = some (.int .i64 V.M.crashes) := (by simp [World.cell?, hobr2]); have d7 : w2.cell? ⟨w.heap.size, 7, none⟩ = some (.slice V.tA V.ts.length V.tc) := (by simp [World.cell?, hobr2]); have d8 : w2.cell? ⟨w.heap.size, 8, none⟩ = some (.slice V.sA V.ss.length V.sc) := (by simp [World.cell?, hobr2]); clear hb2 hobr2))
   have hB2 : Below w1.heap.size w1 w2 := HB.out.trans (Hb2.out.mono hsr)
   have hB2w : Below w.heap.size w w2 := HBr.out.trans (Hb2.out.mono oM)
   have HB2 := hide hB2w
   clear hB2 hB2w
   go_loopw [6, 30] (fun s i wq => ∃ k : Nat, i = .int .i64 k ∧ k ≤ V.ts.length ∧ s = .string ⟨(Lib.join (ws.map T) [32] ++ ((V.ts.map TaskV.l).take k).flatMap (taskO T)).toArray⟩ ∧ Hid (Below w.heap.size w wq)) (fun _ i _ => V.ts.length - (intOf i).toNat)
   case atStart => exact ⟨0, rfl, by omega, by simp, HB2⟩
   case round =>
    obtain ⟨k, rfl, hk, hs, HBq⟩ := hrel
    obtain ⟨pre, hpre⟩ : ∃ p, p = Lib.join (ws.map T) [32] ++ ((V.ts.map TaskV.l).take k).flatMap (taskO T) := ⟨_, rfl⟩
    rw [← hpre] at hs
    subst hs
    have Hpre := hide hpre
    clear hpre
    have hzq : w.heap.size ≤ wr.heap.size := HBq.out.size
    by_cases hltk : (k : Int) < V.ts.length
    ·have hk1 : k < V.ts.length := by omega
     obtain ⟨t, htk⟩ : ∃ t, V.ts[k]? = some t := ⟨_, List.getElem?_eq_getElem hk1⟩
     obtain ⟨bl, of, e1, hbl, hcl⟩ := Rd.elem HR.out.2.1.2.2.1 taskc_len hk1 htk
     have hBw0 := HBq.out
     obtain ⟨htg0, htok⟩ := HR.out.2.1.2.2.2 t (List.mem_of_getElem? htk)
     have htm := Hgm.out t (List.mem_of_getElem? htk)
     have hlm := gots_length htg0
     have hgP := Hgs.out t (List.mem_of_getElem? htk)
     have t0 : wr.cell? ⟨bl, of + k * 11, none⟩ = some (t.c) := (hBw0.cell (p := ⟨bl, of + k * 11, none⟩) hbl).trans (hcl 0 _ rfl)
     have t1 : wr.cell? ⟨bl, of + k * 11 + 1, none⟩ = some (t.nx) := (hBw0.cell (p := ⟨bl, of + k * 11 + 1, none⟩) hbl).trans (hcl 1 _ rfl)
     have t2 : wr.cell? ⟨bl, of + k * 11 + 2, none⟩ = some (.int .i64 t.a.o) := (hBw0.cell (p := ⟨bl, of + k * 11 + 2, none⟩) hbl).trans (hcl 2 _ rfl)
     have t3 : wr.cell? ⟨bl, of + k * 11 + 3, none⟩ = some (.int .i64 t.a.l) := (hBw0.cell (p := ⟨bl, of + k * 11 + 3, none⟩) hbl).trans (hcl 3 _ rfl)
     have t4 : wr.cell? ⟨bl, of + k * 11 + 4, none⟩ = some (.int .i64 t.a.v) := (hBw0.cell (p := ⟨bl, of + k * 11 + 4, none⟩) hbl).trans (hcl 4 _ rfl)
     have t5 : wr.cell? ⟨bl, of + k * 11 + 5, none⟩ = some (.int .u32 t.a.r) := (hBw0.cell (p := ⟨bl, of + k * 11 + 5, none⟩) hbl).trans (hcl 5 _ rfl)
     have t6 : wr.cell? ⟨bl, of + k * 11 + 6, none⟩ = some (.int .u32 t.a.f) := (hBw0.cell (p := ⟨bl, of + k * 11 + 6, none⟩) hbl).trans (hcl 6 _ rfl)
     have t7 : wr.cell? ⟨bl, of + k * 11 + 7, none⟩ = some (.int .i64 t.a.v2) := (hBw0.cell (p := ⟨bl, of + k * 11 + 7, none⟩) hbl).trans (hcl 7 _ rfl)
     have t8 : wr.cell? ⟨bl, of + k * 11 + 8, none⟩ = some (.int .u32 t.a.r2) := (hBw0.cell (p := ⟨bl, of + k * 11 + 8, none⟩) hbl).trans (hcl 8 _ rfl)
     have t9 : wr.cell? ⟨bl, of + k * 11 + 9, none⟩ = some (.int .u32 t.a.f2) := (hBw0.cell (p := ⟨bl, of + k * 11 + 9, none⟩) hbl).trans (hcl 9 _ rfl)
     have t10 : wr.cell? ⟨bl, of + k * 11 + 10, none⟩ = some (.slice t.A t.m t.cp) := (hBw0.cell (p := ⟨bl, of + k * 11 + 10, none⟩) hbl).trans (hcl 10 _ rfl)
     obtain ⟨hsto1, hsto2⟩ := htok.sto
     unfold StoV at hsto1 hsto2
     have hgots := fun W (hW : Below w.heap.size w W) => task_gots t W (htg0.below hW) oM
     have htl : (V.ts.map TaskV.l)[k]? = some t.l := by rw [List.getElem?_map, htk]; rfl
     have hlp : pre.length + 1 + (t.l.flatMap (gotO T)).length ≤ 140737488355328 := by
      have q1 := flat_le (g := taskO T) (l := V.ts.map TaskV.l) (k + 1)
      rw [flat_take htl] at q1
      have q2 := Hlen.out
      have q3 : (taskO T t.l).length = 1 + (t.l.flatMap (gotO T)).length := by unfold taskO; simp only [List.length_append, List.length_cons, List.length_nil]
      have q4 : pre.length = (Lib.join (ws.map T) [32]).length + (((V.ts.map TaskV.l).take k).flatMap (taskO T)).length := by rw [Hpre.out, List.length_append]
      unfold outT at q2
      simp only [List.length_append] at q1 q2
      omega
     have hl1 : pre.length + 1 ≤ 140737488355328 := by omega
     have Hlp := hide hlp
     have Hgots := hide hgots
     have Htl := hide htl
     have Hlm := hide hlm
     have HgP := hide hgP
     have he1 : V.tA = some ⟨bl, of, none⟩ := e1
     have j0 : (0 : Int) ≤ (k : Int) := by omega
     clear hlp hcl htg0 htok hgots htl hlm hgP hBw0 htk e1
     go_upto_region 13 with (first
      | (go_at_call 35; refine (Hgots.out _ (HBq.out.trans (Below.alloc (Below.refl _ _) oM _))).mono ?_; rintro e w3 ⟨A', cap', rfl, how, hb3⟩; have How := hide how; have Hb3 := hide hb3; have hs3 := hb3.size; (try simp at hs3); clear how hb3))
     have HB3 := hide (HBq.out.trans ((Below.alloc (Below.refl _ _) (Nat.le_refl _) _).trans (Hb3.out.mono sM) |>.mono hzq))
     clear t0 t1 t2 t3 t4 t5 t6 t7 t8 t9 t10
     go_loopw [6, 39] (fun s i wq => ∃ j : Nat, i = .int .i64 j ∧ j ≤ t.m ∧ s = .string ⟨(pre ++ [59] ++ (t.l.take j).flatMap (gotO T)).toArray⟩ ∧ Hid (Below w3.heap.size w3 wq)) (fun _ i _ => t.m - (intOf i).toNat)
     case atStart => exact ⟨0, rfl, by omega, by rw [show (#[59] : Array UInt8) = [59].toArray from rfl, str_app]; simp, hide (Below.refl _ _)⟩
     case round =>
      exact abD7
    ·obtain rfl : V.ts.length = k := by omega
     have heq : pre = outT T ws (V.ts.map TaskV.l) := by
      have q := Hpre.out
      rw [List.take_of_length_le (by rw [List.length_map]; omega)] at q
      exact q
     have Heq := hide heq
     clear heq
     go_wp2_with fail
     go_ret
     exact ⟨by rw [← Heq.out]; rfl, HBq.out⟩
theorem ex_choices_acq (m : MachV) (t k : Nat) (h : HistV) (v : VwV) (a : AS) (w : World) (hR : m.R w) (ho : a.o = 2) (hat : a.l = k) (hh : m.mem.hs[k]? = some h) (hv : m.mem.vs[t]? = some v) (hn : m.mem.vs.length ≤ 1000) (hL : m.mem.hs.length ≤ 4096) (hl6 : h.l.length ≤ 1000000) (hf6 : ∀ z, v.f z ≤ 1000000) :
  Calls Tryz.prog 95 #[(maV m), .int .i64 ((t : Int) + 1), (acV a)] w (Ret (.int .i64 (chN h.l.length (v.f k))) w) := by
 try unfold acV
 have hk : k < m.mem.hs.length := (List.getElem?_eq_some_iff.1 hh).1
 have hf0 : 0 ≤ v.f k := ((hR.1.2.2.2.2 v (List.mem_of_getElem? hv)).1 k).1
 have hf1 := hf6 k
 have hmm := fun W => mach_memory m W
 have hhist := fun W (h0 : m.mem.R W) => mem_history m.mem k h W h0 hh
 have hlen := fun W => hist_len h W
 have hseen := fun W (h0 : m.mem.R W) => mem_seen m.mem t v W h0 hv hn
 have hat2 := fun W (h0 : m.mem.R W) => view_at m.mem.hs.length hL v k W (h0.2.2.2.2 v (List.mem_of_getElem? hv)) oM oM
 have HR := hide hR.1
 have Hmm := hide hmm
 have Hhist := hide hhist
 have Hlen := hide hlen
 have Hseen := hide hseen
 have Hat := hide hat2
 have hw : IntKind.i64.wrap ((h.l.length : Int) - v.f k) = (h.l.length : Int) - v.f k := IntWalk.i64_in _ oM
 obtain ⟨o, l, v1, r1, f1, v2, r2, f2⟩ := a
 simp only at ho hat
 subst ho hat
 rw [show chN h.l.length (v.f k) = max 1 ((h.l.length : Int) - v.f k) from rfl]
 clear hmm hhist hlen hseen hat2 hR hh hv hf6 hn hL hl6 hk hf0 hf1
 go_enter Tryz.func95, Tryz.ntmps95
 go_upto_region 3 with fail
 obtain ⟨w0, hw0⟩ : ∃ W : World, W = (w.alloc (.cells #[.slice (m).mem.pA (m).mem.hs.length (m).mem.pc, .slice (m).mem.vA (m).mem.vs.length (m).mem.vc, .slice (m).ln.fA (m).ln.first.length (m).ln.fc, .slice (m).ln.lA (m).ln.logs.length (m).ln.lc, .map (m).ln.asks, .slice (m).sA (m).steps.length (m).sc, .int .i64 (m).crashes] 36)).alloc (.cells #[.int .i64 2, .int .i64 k, .int .i64 v1, .int .u32 r1, .int .u32 f1, .int .i64 v2, .int .u32 r2, .int .u32 f2] 68) := ⟨_, rfl⟩
 have hB0 : Below w.heap.size w w0 := by rw [hw0]; exact ab0
 have hs0 : w0.heap.size = w.heap.size + 1 + 1 := by rw [hw0]; simp
 have hz0 : w.heap.size < w0.heap.size := by omega
 have hz1 : w.heap.size + 1 < w0.heap.size := by omega
 have d0 : w0.cell? ⟨w.heap.size + 1, 1, none⟩ = some (.int .i64 k) := by rw [hw0]; go_simp
 have HS : HX w.heap.size [.slice (m).mem.pA (m).mem.hs.length (m).mem.pc, .slice (m).mem.vA (m).mem.vs.length (m).mem.vc, .slice (m).ln.fA (m).ln.first.length (m).ln.fc, .slice (m).ln.lA (m).ln.logs.length (m).ln.lc, .map (m).ln.asks, .slice (m).sA (m).steps.length (m).sc, .int .i64 (m).crashes] (w.heap.size + 1) 1 (.int .i64 k) [] w0 := ⟨by rw [hw0]; exact (BoxC.made w #[.slice (m).mem.pA (m).mem.hs.length (m).mem.pc, .slice (m).mem.vA (m).mem.vs.length (m).mem.vc, .slice (m).ln.fA (m).ln.first.length (m).ln.fc, .slice (m).ln.lA (m).ln.logs.length (m).ln.lc, .map (m).ln.asks, .slice (m).sA (m).steps.length (m).sc, .int .i64 (m).crashes] 36).below ab0, CellB.of d0, by simp⟩
 have HB0 := hide hB0
 rw [← hw0]
 clear hw0 hB0 hs0
 go_cut [7, 8] from 17 to 24 (fun s7 s8 wx => ∃ B : Nat, s7 = .pointer (some ⟨B, 0, none⟩) ∧ w0.heap.size ≤ B ∧ B < wx.heap.size ∧ s8 = .bool true ∧ wx.cell? ⟨B, 0, none⟩ = some (.slice h.A h.l.length h.cap) ∧ Below w0.heap.size w0 wx)
 case first =>
  exact abD3
 case rest =>
  exact abD6
theorem mem_history_no (m : MemV) (z : Int) (w : World) (hz : z < 0 ∨ (m.hs.length : Int) ≤ z) : Calls Tryz.prog 45 #[(.agg #[.slice (m).pA (m).hs.length (m).pc, .slice (m).vA (m).vs.length (m).vc]), .int .i64 z] w (Ret (.tuple #[.agg #[.slice none 0 0], .bool false]) w) := by
 have ht := fun W => mem_place m z W
 rw [show (decide (0 ≤ z) && decide (z < (m.hs.length : Int))) = false by simp; omega] at ht
 have Ht := hide ht
 clear ht hz
 go_enter Tryz.func45, Tryz.ntmps45
 go_wp2_with (first | (go_at_call 83; refine (Ht.out _).mono ?_; rintro e w1 ⟨rfl, hb1⟩; obtain ⟨hcc1, hff1, hs1⟩ := bC hb1; (try simp at hs1)))
 exact bodyPost_ret (v := .tuple #[.agg #[.slice none 0 0], .bool false]) (by simp [results, Tryz.results45, go_sem]; (try go_simp)) rfl ⟨rfl, ab0⟩
theorem abD4 {p : Prop} (h : p := by
 refine wp_region_held_drew (S := (HX w.heap.size [.slice (m).mem.pA (m).mem.hs.length (m).mem.pc, .slice (m).mem.vA (m).mem.vs.length (m).mem.vc, .slice (m).ln.fA (m).ln.first.length (m).ln.fc, .slice (m).ln.lA (m).ln.logs.length (m).ln.lc, .map (m).ln.asks, .slice (m).sA (m).steps.length (m).sc, .int .i64 (m).crashes] (w.heap.size + 1) 1 (.int .i64 l) ([]))) kR ab5 (fun hHeld => ?_)
 (try simp only [HX_drew] at hHeld)
 refine tq3 0 ?_
 refine tq3 2 ?_
 refine tq3 3 ?_
 refine wR (rs := [1, 8]) ?_
 focus
  refine aI (fun K hK => ?_) (aE fun K hK => ?_)
  focus
   go_simp
   (go_at_call 44; refine (Hmm.out _).mono ?_; rintro e w1 ⟨rfl, hb1'⟩; have hb1 : Below _ _ w1 := (by first | with_reducible exact noDrew hb1' | exact hb1'); have hsw1 := (hb1).size; (try simp at hsw1))
   go_wp2_with fail
   refine oK hK ab5 fun hHeld => ?_
   clear hK K
   refine wR (rs := [4, 8]) ?_
   refine aI (fun K hK => ?_) (aE fun K hK => ?_)
   focus
    go_simp
    (go_at_call 45; refine (Hhist.out _ (HR.out.below (Below.trans HB0.out (Below.mono (B := w0.heap.size) ab0 oM)))).mono ?_; rintro e w2 ⟨rfl, hb2'⟩; have hb2 : Below _ _ w2 := ab15; have hsw2 := (hb2).size; (try simp at hsw2))
    go_wp2_with fail
    refine oK hK ab5 fun hHeld => ?_
    clear hK K
    refine tq3 5 ?_
    refine tq3 6 ?_
    refine tq3 7 ?_
    refine wE 8 fun K hK => ?_
    go_simp
    go_wp2_with fail
    refine oS hK (S' := (HX _ _ _ _ _ ((w2.heap.size, 1) :: _))) (fun w h => HX.pop h) ab3 fun hHeld => ?_
    clear hK K
    refine wE 9 fun K hK => ?_
    have hE := hHeld.box (B := (w2.heap.size)) (n := 1) sM; have kf := hE.fz; obtain ⟨u0, k0⟩ := hE.at (j := 0) oM
    go_simp
    go_wp2_with fail
    refine oK hK ab1 fun hHeld => ?_
    clear hK K
    refine tq3 10 ?_
    refine wD ?_
   rotate_left 1
   focus
    go_simp
    go_wp2_with fail
    refine oS hK (S' := (HX _ _ _ _ _ ((w1.heap.size, 1) :: _))) (fun w h => HX.pop h) ab3 fun hHeld => ?_
    clear hK K
    refine wE 4 fun K hK => ?_
    go_simp
    (go_at_call 45; refine (Hhist.out _ (HR.out.below (Below.trans HB0.out (Below.mono (B := w0.heap.size) ab0 oM)))).mono ?_; rintro e w2 ⟨rfl, hb2'⟩; have hb2 : Below _ _ w2 := ab15; have hsw2 := (hb2).size; (try simp at hsw2))
    go_wp2_with fail
    refine oK hK ab2 fun hHeld => ?_
    clear hK K
    refine tq3 5 ?_
    refine tq3 6 ?_
    refine tq3 7 ?_
    refine wE 9 fun K hK => ?_
    have hE := hHeld.box (B := (w1.heap.size)) (n := 1) sM; have kf := hE.fz; obtain ⟨u0, k0⟩ := hE.at (j := 0) oM
    go_simp
    go_wp2_with fail
    refine oK hK ab1 fun hHeld => ?_
    clear hK K
    refine tq3 10 ?_
    refine wD ?_
   rotate_left 1
  rotate_left 2
  focus
   go_simp
   go_wp2_with fail
   refine oS hK (S' := (HX _ _ _ _ _ ((w0.heap.size, 1) :: _))) (fun w h => HX.pop h) ab3 fun hHeld => ?_
   clear hK K
   refine wE 1 fun K hK => ?_
   go_simp
   (go_at_call 44; refine (Hmm.out _).mono ?_; rintro e w1 ⟨rfl, hb1'⟩; have hb1 : Below _ _ w1 := (by first | with_reducible exact noDrew hb1' | exact hb1'); have hsw1 := (hb1).size; (try simp at hsw1))
   go_wp2_with fail
   refine oK hK ab2 fun hHeld => ?_
   clear hK K
   refine wE 4 fun K hK => ?_
   go_simp
   (go_at_call 45; refine (Hhist.out _ (HR.out.below (Below.trans HB0.out (Below.mono (B := w0.heap.size) ab0 oM)))).mono ?_; rintro e w2 ⟨rfl, hb2'⟩; have hb2 : Below _ _ w2 := ab15; have hsw2 := (hb2).size; (try simp at hsw2))
   go_wp2_with fail
   refine oK hK ab2 fun hHeld => ?_
   clear hK K
   refine tq3 5 ?_
   refine tq3 6 ?_
   refine tq3 7 ?_
   refine wE 9 fun K hK => ?_
   have hE := hHeld.box (B := (w0.heap.size)) (n := 1) sM; have kf := hE.fz; obtain ⟨u0, k0⟩ := hE.at (j := 0) oM
   go_simp
   go_wp2_with fail
   refine oK hK ab1 fun hHeld => ?_
   clear hK K
   refine tq3 10 ?_
   refine wD ?_
  rotate_left 1
 all_goals go_wp2_with fail
 all_goals go_meet
 all_goals exact ⟨_, rfl, by first | omega | (simp; done) | (simp; omega), by first | omega | (simp; done) | (simp; omega), rfl, ab0⟩) : p := h
theorem ex_choices_none1 (m : MachV) (t : Int) (z : Int) (a : AS) (w : World) (hR : m.R w) (ho : a.o = 1) (hat : a.l = z) (hz : z < 0 ∨ (m.mem.hs.length : Int) ≤ z) :
  Calls Tryz.prog 95 #[(maV m), .int .i64 t, (acV a)] w (Ret (.int .i64 1) w) := by
 try unfold acV
 have hmm := fun W => mach_memory m W
 have hhist := fun W (_ : m.mem.R W) => mem_history_no m.mem z W hz
 have HR := hide hR.1
 have Hmm := hide hmm
 have Hhist := hide hhist
 obtain ⟨o, l, v1, r1, f1, v2, r2, f2⟩ := a
 simp only at ho hat
 subst ho hat
 clear hmm hhist hR hz
 go_enter Tryz.func95, Tryz.ntmps95
 go_upto_region 3 with fail
 obtain ⟨w0, hw0⟩ : ∃ W : World, W = (w.alloc (.cells #[.slice (m).mem.pA (m).mem.hs.length (m).mem.pc, .slice (m).mem.vA (m).mem.vs.length (m).mem.vc, .slice (m).ln.fA (m).ln.first.length (m).ln.fc, .slice (m).ln.lA (m).ln.logs.length (m).ln.lc, .map (m).ln.asks, .slice (m).sA (m).steps.length (m).sc, .int .i64 (m).crashes] 36)).alloc (.cells #[.int .i64 1, .int .i64 l, .int .i64 v1, .int .u32 r1, .int .u32 f1, .int .i64 v2, .int .u32 r2, .int .u32 f2] 68) := ⟨_, rfl⟩
 have hB0 : Below w.heap.size w w0 := by rw [hw0]; exact ab0
 have hs0 : w0.heap.size = w.heap.size + 1 + 1 := by rw [hw0]; simp
 have hz0 : w.heap.size < w0.heap.size := by omega
 have hz1 : w.heap.size + 1 < w0.heap.size := by omega
 have d0 : w0.cell? ⟨w.heap.size + 1, 1, none⟩ = some (.int .i64 l) := by rw [hw0]; go_simp
 have HS : HX w.heap.size [.slice (m).mem.pA (m).mem.hs.length (m).mem.pc, .slice (m).mem.vA (m).mem.vs.length (m).mem.vc, .slice (m).ln.fA (m).ln.first.length (m).ln.fc, .slice (m).ln.lA (m).ln.logs.length (m).ln.lc, .map (m).ln.asks, .slice (m).sA (m).steps.length (m).sc, .int .i64 (m).crashes] (w.heap.size + 1) 1 (.int .i64 l) [] w0 := ⟨by rw [hw0]; exact (BoxC.made w #[.slice (m).mem.pA (m).mem.hs.length (m).mem.pc, .slice (m).mem.vA (m).mem.vs.length (m).mem.vc, .slice (m).ln.fA (m).ln.first.length (m).ln.fc, .slice (m).ln.lA (m).ln.logs.length (m).ln.lc, .map (m).ln.asks, .slice (m).sA (m).steps.length (m).sc, .int .i64 (m).crashes] 36).below ab0, CellB.of d0, by simp⟩
 have HB0 := hide hB0
 rw [← hw0]
 clear hw0 hB0 hs0
 go_cut [7, 8] from 17 to 24 (fun s7 s8 wx => ∃ B : Nat, s7 = .pointer (some ⟨B, 0, none⟩) ∧ w0.heap.size ≤ B ∧ B < wx.heap.size ∧ s8 = .bool false ∧ Below w0.heap.size w0 wx)
 case first =>
  exact abD4
 case rest =>
  obtain ⟨B, rfl, hB, hBx, rfl, hBc⟩ := hcut
  have HBc := hide (HB0.out.trans (hBc.mono oM))
  go_wp2_with fail
  go_ret
  exact ⟨rfl, HBc.out⟩
theorem ex_choices_none2 (m : MachV) (t : Int) (z : Int) (a : AS) (w : World) (hR : m.R w) (ho : a.o = 2) (hat : a.l = z) (hz : z < 0 ∨ (m.mem.hs.length : Int) ≤ z) :
  Calls Tryz.prog 95 #[(maV m), .int .i64 t, (acV a)] w (Ret (.int .i64 1) w) := by
 try unfold acV
 have hmm := fun W => mach_memory m W
 have hhist := fun W (_ : m.mem.R W) => mem_history_no m.mem z W hz
 have HR := hide hR.1
 have Hmm := hide hmm
 have Hhist := hide hhist
 obtain ⟨o, l, v1, r1, f1, v2, r2, f2⟩ := a
 simp only at ho hat
 subst ho hat
 clear hmm hhist hR hz
 go_enter Tryz.func95, Tryz.ntmps95
 go_upto_region 3 with fail
 obtain ⟨w0, hw0⟩ : ∃ W : World, W = (w.alloc (.cells #[.slice (m).mem.pA (m).mem.hs.length (m).mem.pc, .slice (m).mem.vA (m).mem.vs.length (m).mem.vc, .slice (m).ln.fA (m).ln.first.length (m).ln.fc, .slice (m).ln.lA (m).ln.logs.length (m).ln.lc, .map (m).ln.asks, .slice (m).sA (m).steps.length (m).sc, .int .i64 (m).crashes] 36)).alloc (.cells #[.int .i64 2, .int .i64 l, .int .i64 v1, .int .u32 r1, .int .u32 f1, .int .i64 v2, .int .u32 r2, .int .u32 f2] 68) := ⟨_, rfl⟩
 have hB0 : Below w.heap.size w w0 := by rw [hw0]; exact ab0
 have hs0 : w0.heap.size = w.heap.size + 1 + 1 := by rw [hw0]; simp
 have hz0 : w.heap.size < w0.heap.size := by omega
 have hz1 : w.heap.size + 1 < w0.heap.size := by omega
 have d0 : w0.cell? ⟨w.heap.size + 1, 1, none⟩ = some (.int .i64 l) := by rw [hw0]; go_simp
 have HS : HX w.heap.size [.slice (m).mem.pA (m).mem.hs.length (m).mem.pc, .slice (m).mem.vA (m).mem.vs.length (m).mem.vc, .slice (m).ln.fA (m).ln.first.length (m).ln.fc, .slice (m).ln.lA (m).ln.logs.length (m).ln.lc, .map (m).ln.asks, .slice (m).sA (m).steps.length (m).sc, .int .i64 (m).crashes] (w.heap.size + 1) 1 (.int .i64 l) [] w0 := ⟨by rw [hw0]; exact (BoxC.made w #[.slice (m).mem.pA (m).mem.hs.length (m).mem.pc, .slice (m).mem.vA (m).mem.vs.length (m).mem.vc, .slice (m).ln.fA (m).ln.first.length (m).ln.fc, .slice (m).ln.lA (m).ln.logs.length (m).ln.lc, .map (m).ln.asks, .slice (m).sA (m).steps.length (m).sc, .int .i64 (m).crashes] 36).below ab0, CellB.of d0, by simp⟩
 have HB0 := hide hB0
 rw [← hw0]
 clear hw0 hB0 hs0
 go_cut [7, 8] from 17 to 24 (fun s7 s8 wx => ∃ B : Nat, s7 = .pointer (some ⟨B, 0, none⟩) ∧ w0.heap.size ≤ B ∧ B < wx.heap.size ∧ s8 = .bool false ∧ Below w0.heap.size w0 wx)
 case first =>
  exact abD4
 case rest =>
  obtain ⟨B, rfl, hB, hBx, rfl, hBc⟩ := hcut
  have HBc := hide (HB0.out.trans (hBc.mono oM))
  go_wp2_with fail
  go_ret
  exact ⟨rfl, HBc.out⟩
end Go.Proofs.YtnnmenmifphadaaGreatDoor
