/- Package word: Text of a plain word. Package machine: Word, Words. -/
import Derived.Test.YtfdndkgjmmeafaaGreatDoorG42
namespace Go.Proofs.YtfdndkgjmmeafaaGreatDoor
set_option linter.unusedSimpArgs false
set_option linter.unusedVariables false
open Go.RowKit Go.Maps Go.Sort
set_option maxHeartbeats 1000000 in
set_option maxRecDepth 100000 in
theorem mach_word (m : MachV) (k j : Nat) (h : HistV) (g : MsgV) (w : World) (hR : m.mem.R w) (hh : m.mem.hs[k]? = some h) (hj : h.l.length = j + 1) (hj6 : j ≤ 1000000) (hg : h.l[j]? = some g) : Calls Tryz.prog 70 #[(.agg #[.slice (m).mem.pA (m).mem.hs.length (m).mem.pc, .slice (m).mem.vA (m).mem.vs.length (m).mem.vc, .slice (m).ln.fA (m).ln.first.length (m).ln.fc, .slice (m).ln.lA (m).ln.logs.length (m).ln.lc, .map (m).ln.asks, .slice (m).sA (m).steps.length (m).sc, .int .i64 (m).crashes]), .int .i64 k] w fun e w' => e = .returned (.tuple #[.agg #[.int .i64 g.x.v, .int .u32 g.x.r, .int .u32 g.x.f], .bool true]) ∧ Below w.heap.size w w' := by
  have hl := fun W (hw : m.mem.R W) => mem_last m.mem k j h g W hw hh hj hj6 hg
  have Hl := hide hl
  have HR := hide hR
  clear hl hR hh hj hg
  go_enter Tryz.func70, Tryz.ntmps70
  go_wp2_with (first | (go_at_call 100; refine (Hl.out _ (HR.out.below ab0)).mono ?_; rintro e w1 ⟨rfl, hb1⟩; obtain ⟨hcc1, hff1⟩ := bcell hb1; have hs1 := hb1.size; (try simp at hs1); have hz1 : w.heap.size + 1 < w1.heap.size := (by omega)))
  exact bodyPost_ret (v := .tuple #[.agg #[.int .i64 g.x.v, .int .u32 g.x.r, .int .u32 g.x.f], .bool true]) (by simp [results, Tryz.results70, go_sem]; (try go_simp)) rfl ⟨rfl, ab0⟩
theorem kind_zero (x : W3) (w : World) (hf : x.f = 0) : Calls Tryz.prog 71 #[(.agg #[.int .i64 (x).v, .int .u32 (x).r, .int .u32 (x).f])] w fun e w' => e = .returned (.int .i64 0) ∧ Below w.heap.size w w' := by
  obtain ⟨v, r, f⟩ := x
  simp only at hf
  subst hf
  have hwho : ∀ W, Calls Tryz.prog 73 #[.int .u32 0] W fun e w' => e = .returned (.tuple #[.int .i64 0, .int .i64 0]) ∧ w' = W := by
    intro W
    have hr : ∀ W, Calls Tryz.prog 102 #[.int .i64 0, .int .i64 0] W fun e w' => e = .returned (.tuple #[.int .u32 0, .int .i64 3]) ∧ w' = W := by
      intro W
      go_enter Tryz.func102, Tryz.ntmps102
      go_wp2_with fail
      exact bodyPost_ret (v := .tuple #[.int .u32 0, .int .i64 3]) (by simp [results, Tryz.results102, go_sem]) rfl ⟨rfl, rfl⟩
    have hr2 := hr W
    have ha : bits .and .u32 0 16777215 = 0 := by decide
    have Hr := hide hr
    clear hr hr2
    go_enter Tryz.func73, Tryz.ntmps73
    go_wp2_with (first
      | (go_at_call 102; refine (Hr.out _).mono ?_; rintro e w1 ⟨rfl, rfl⟩))
    exact bodyPost_ret (v := .tuple #[.int .i64 0, .int .i64 0]) (by simp [results, Tryz.results73, go_sem]) rfl ⟨rfl, rfl⟩
  have Hwho := hide hwho
  clear hwho
  go_enter Tryz.func71, Tryz.ntmps71
  go_wp2_with (first
    | (go_at_call 73; refine (Hwho.out _).mono ?_; rintro e w1 ⟨rfl, rfl⟩))
  go_ret
  exact ⟨rfl, ab0⟩
/-- What Text writes of a plain word of version 0. -/
theorem text_plain (x : W3) (w : World) (hr : x.r = 0) (hf : x.f = 0) (h0 : -9223372036854775808 ≤ x.v) (h1 : x.v ≤ 9223372036854775807) (htab : Tab w) (hg0 : 0 < w.heap.size) :
    Calls Tryz.prog 49 #[(.agg #[.int .i64 (x).v, .int .u32 (x).r, .int .u32 (x).f])] w fun e w' => e = .returned (.string ⟨(Lib.itoa x.v).toArray⟩) ∧ Below w.heap.size w w' := by
  have hk := fun W => kind_zero x W hf
  obtain ⟨v, r, f⟩ := x
  simp only at hr hf h0 h1 hk
  subst hr hf
  have HT := hide htab
  have Hk := hide hk
  clear htab hk
  go_enter Tryz.func49, Tryz.ntmps49
  go_wp2_with (first
    | (go_at_call 71; refine (Hk.out _).mono ?_; rintro e w1 ⟨rfl, hb1⟩; obtain ⟨hcc1, hff1⟩ := bcell hb1; have hs1 := hb1.size; (try simp at hs1); have hz1 : w.heap.size < w1.heap.size := (by omega))
    | (go_at_call 66; refine (fmt_int v _ h0 h1 (HT.out.below (N := w.heap.size) ab0 hg0)).mono ?_; rintro e w2 ⟨rfl, hb2⟩; obtain ⟨hcc2, hff2⟩ := bcell hb2; have hs2 := hb2.size; (try simp at hs2); have hz2 : w.heap.size < w2.heap.size := (by omega)))
  go_ret
  exact ⟨rfl, ab0⟩
theorem info_word : (Tryz.prog.info? 25).map (fun i => (i.zero, i.size, i.bytes)) = some (some (.agg #[.int .i64 0, .int .u32 0, .int .u32 0]), 3, 16) := by kernel_rfl
theorem w3c_one (x : W3) : ∀ u ∈ w3c x, u.oneCell' = true := by
  intro u hu
  simp [w3c] at hu
  rcases hu with rfl | rfl | rfl <;> rfl
set_option maxHeartbeats 4000000 in
set_option maxRecDepth 100000 in
theorem mach_words (m : MachV) (ws : List W3) (w : World) (hR : m.mem.R w) (hl : ws.length = m.mem.hs.length) (hL : m.mem.hs.length ≤ 4096) (hw : ∀ (k : Nat) (x : W3), ws[k]? = some x → ∀ W, m.mem.R W → Calls Tryz.prog 70 #[(.agg #[.slice (m).mem.pA (m).mem.hs.length (m).mem.pc, .slice (m).mem.vA (m).mem.vs.length (m).mem.vc, .slice (m).ln.fA (m).ln.first.length (m).ln.fc, .slice (m).ln.lA (m).ln.logs.length (m).ln.lc, .map (m).ln.asks, .slice (m).sA (m).steps.length (m).sc, .int .i64 (m).crashes]), .int .i64 k] W fun e w' => e = .returned (.tuple #[(.agg #[.int .i64 (x).v, .int .u32 (x).r, .int .u32 (x).f]), .bool true]) ∧ Below W.heap.size W w') :
    Calls Tryz.prog 48 #[(.agg #[.slice (m).mem.pA (m).mem.hs.length (m).mem.pc, .slice (m).mem.vA (m).mem.vs.length (m).mem.vc, .slice (m).ln.fA (m).ln.first.length (m).ln.fc, .slice (m).ln.lA (m).ln.logs.length (m).ln.lc, .map (m).ln.asks, .slice (m).sA (m).steps.length (m).sc, .int .i64 (m).crashes])] w fun e w' => ∃ v : Value, e = .returned v ∧ w'.ownsRow w.heap.size 25 3 v ws.length (ws.flatMap w3c) ∧ Below w.heap.size w w' := by
  obtain ⟨i0, hi, iz0, iz1, iz2⟩ := info_parts info_word
  have hsz := fun W => mach_size m W
  have Hi := hide hi
  have Hsz := hide hsz
  have HR := hide hR
  have Hw := hide hw
  have Hl := hide hl
  clear hR hw hl hi hsz
  go_enter Tryz.func48, Tryz.ntmps48
  go_wp2_with (first
    | (go_at_call 22; refine (Hsz.out _).mono ?_; rintro e w1 ⟨rfl, hb1⟩; have Hb1 := hide hb1; have hs1 := hb1.size; (try simp at hs1); clear hb1))
  have hob : w1.heap[w.heap.size]? = some (.cells #[.slice m.mem.pA m.mem.hs.length m.mem.pc, .slice m.mem.vA m.mem.vs.length m.mem.vc, .slice m.ln.fA m.ln.first.length m.ln.fc, .slice m.ln.lA m.ln.logs.length m.ln.lc, .map m.ln.asks, .slice m.sA m.steps.length m.sc, .int .i64 m.crashes] 42 (0, 0)) := (Hb1.out.block w.heap.size (by simp)).trans (heap_new _ _ rfl)
  have HB1 : Hid (Below w.heap.size w w1) := hide ((Below.alloc (Below.refl _ _) (Nat.le_refl _) _).trans (Hb1.out.mono (by simp)))
  have Hob := hide hob
  clear hob Hb1
  go_loopw [5, 15] (fun v i wr => ∃ k : Nat, i = .int .i64 k ∧ k ≤ ws.length ∧ Hid (wr.ownsRow w1.heap.size 25 3 v k ((ws.take k).flatMap w3c)) ∧ Hid (Below w1.heap.size w1 wr)) (fun _ i _ => ws.length - (intOf i).toNat)
  case atStart => exact ⟨0, rfl, by omega, hide (World.ownsRow_nil _ _ _ _), hide (Below.refl _ _)⟩
  case round =>
    obtain ⟨k, rfl, hk, Hown, HB⟩ := hrel
    have hzb : w.heap.size < w1.heap.size := by omega
    have hsr : w1.heap.size ≤ wr.heap.size := HB.out.size
    have hzr : w.heap.size < wr.heap.size := by omega
    have hws := Hl.out
    by_cases hlt : (k : Int) < m.mem.hs.length
    · have hk1 : k < ws.length := by omega
      obtain ⟨x, hx⟩ : ∃ x, ws[k]? = some x := ⟨_, List.getElem?_eq_getElem hk1⟩
      have hobr := (HB.out.block w.heap.size hzb).trans Hob.out
      have c0 : wr.cell? ⟨w.heap.size, 0, none⟩ = some (.slice m.mem.pA m.mem.hs.length m.mem.pc) := by simp [World.cell?, hobr]
      have c1 : wr.cell? ⟨w.heap.size, 1, none⟩ = some (.slice m.mem.vA m.mem.vs.length m.mem.vc) := by simp [World.cell?, hobr]
      have c2 : wr.cell? ⟨w.heap.size, 2, none⟩ = some (.slice m.ln.fA m.ln.first.length m.ln.fc) := by simp [World.cell?, hobr]
      have c3 : wr.cell? ⟨w.heap.size, 3, none⟩ = some (.slice m.ln.lA m.ln.logs.length m.ln.lc) := by simp [World.cell?, hobr]
      have c4 : wr.cell? ⟨w.heap.size, 4, none⟩ = some (.map m.ln.asks) := by simp [World.cell?, hobr]
      have c5 : wr.cell? ⟨w.heap.size, 5, none⟩ = some (.slice m.sA m.steps.length m.sc) := by simp [World.cell?, hobr]
      have c6 : wr.cell? ⟨w.heap.size, 6, none⟩ = some (.int .i64 m.crashes) := by simp [World.cell?, hobr]
      have HRr := hide (HR.out.below (HB1.out.trans (HB.out.mono (by omega))))
      have hwk := Hw.out k x hx
      have Hwk := hide hwk
      have Hx := hide hx
      have j0 : (0 : Int) ≤ (k : Int) := by omega
      clear hobr hwk hx hws
      have hi := Hi.out
      go_wp2_with (first
        | (go_at_call 70; refine (Hwk.out _ HRr.out).mono ?_; rintro e w2 ⟨rfl, hb2⟩; have Hb2 := hide hb2; have hs2 := hb2.size; clear hb2)
        | (at_builtin; (refine wpList_append_own _ rfl _ _ 35 rfl w1.heap.size 25 i0 _ 3 16 Tryz.underlying35 hi iz0 iz1 iz2 rfl (by decide) _ k ((ws.take k).flatMap w3c) rfl (own_below Hown.out ((Hb2.out.trans (Below.alloc (Below.refl _ _) hs2 _)).trans (Below.alloc (Below.refl _ _) (by simp; omega) _))) ⟨w2.heap.size + 1, 0, none⟩ 1 1 (w3c x) rfl rfl ?o2 ?o3 ?o4 ?o5 ?o6 ?_)))
      case o2 =>
        intro j u hj
        match j, hj with
        | 0, hj => simp [w3c] at hj; subst hj; simp [Addr.add]
        | 1, hj => simp [w3c] at hj; subst hj; simp [Addr.add]
        | 2, hj => simp [w3c] at hj; subst hj; simp [Addr.add]
        | (j + 3), hj => simp [w3c] at hj
      case o3 => exact w3c_one _
      case o4 => unfold maxLen; omega
      case o5 => omega
      case o6 => simp; omega
      intro v' w5 hown' hg _
      have hown5 : w5.ownsRow w1.heap.size 25 3 v' (k + 1) ((ws.take (k + 1)).flatMap w3c) := by
        rw [flat_take Hx.out]
        exact hown'
      have hB5 : Below w1.heap.size w1 w5 := below_grown ((HB.out.trans ((Hb2.out.trans (Below.alloc (Below.refl _ _) hs2 _)).trans (Below.alloc (Below.refl _ _) (by simp; omega) _) |>.mono hsr))) hg (own_below Hown.out ((Hb2.out.trans (Below.alloc (Below.refl _ _) hs2 _)).trans (Below.alloc (Below.refl _ _) (by simp; omega) _))) (Nat.le_refl _) (by simp; omega)
      have Hown5 := hide hown5
      have HB5 := hide hB5
      clear hown' hg hown5 hB5 hi
      go_wp2_with fail
      first
        | exact ⟨⟨k + 1, by go_num, by omega, Hown5, HB5⟩, by simp [intOf]; omega⟩
        | ((repeat apply Exists.intro); exact ⟨⟨k + 1, by go_num, by omega, Hown5, HB5⟩, by simp [intOf]; omega⟩)
    · obtain rfl : ws.length = k := by omega
      have Hown6 : Hid (World.ownsRow wr w1.heap.size 25 3 _ ws.length (ws.flatMap w3c)) := hide (by have q := Hown.out; rw [List.take_length] at q; exact q)
      have hbs : w.heap.size ≤ w1.heap.size := by omega
      clear Hown hws
      go_wp2_with fail
      go_ret
      exact ⟨_, rfl, ownsRow_base_a Hown6.out hbs, HB1.out.trans (HB.out.mono (by omega))⟩
end Go.Proofs.YtfdndkgjmmeafaaGreatDoor

namespace Go.Proofs.YtfdndkgjmmeafaaGreatDoor
set_option linter.unusedSimpArgs false
set_option linter.unusedVariables false
open Go.RowKit Go.Maps Go.Sort
theorem info_str : (Tryz.prog.info? 9).map (fun i => (i.zero, i.size, i.bytes)) = some (some (.string ⟨#[]⟩), 1, 16) := by kernel_rfl
/-- What stands behind a result. -/
def bangT (k : Bool) : List UInt8 := if k then [] else [33]
def gotO (T : W3 → List UInt8) (g : GS) : List UInt8 := [32] ++ T ⟨g.v, g.r, g.f⟩ ++ bangT g.k
def taskO (T : W3 → List UInt8) (l : List GS) : List UInt8 := [59] ++ l.flatMap (gotO T)
/-- What Outcome writes. -/
def outT (T : W3 → List UInt8) (ws : List W3) (gs : List (List GS)) : List UInt8 := Lib.join (ws.map T) [32] ++ gs.flatMap (taskO T)
def strV (T : W3 → List UInt8) (x : W3) : Value := .string ⟨(T x).toArray⟩
theorem strV_one (T : W3 → List UInt8) (x : W3) : ∀ u ∈ [strV T x], u.oneCell' = true := by
  intro u hu
  simp only [List.mem_cons, List.not_mem_nil, or_false] at hu
  subst hu
  rfl
theorem str_app (a b : List UInt8) : (⟨a.toArray⟩ : ByteArray) ++ ⟨b.toArray⟩ = ⟨(a ++ b).toArray⟩ := by
  apply ByteArray.ext
  rw [ByteArray.data_append]
  simp
theorem map_take {α β : Type} {g : α → β} {l : List α} {k : Nat} {a : α} (h : l[k]? = some a) : (l.take (k + 1)).map g = (l.take k).map g ++ [g a] := by
  rw [List.take_add_one, h]
  simp
theorem join_ws (T : W3 → List UInt8) (ws : List W3) (g c : Nat) (w : World) (hr : Rd w w.heap.size 1 (some ⟨g, 0, none⟩) ws.length (ws.map (strV T))) (hc : ws.length ≤ c) (hlen : (Lib.join (ws.map T) [32]).length ≤ 140737488355328) (h0 : 0 < ws.length ∧ ws.length ≤ 4096) :
    Calls Tryz.prog 50 #[.slice (some ⟨g, 0, none⟩) ws.length c, .string ⟨#[32]⟩] w fun e w' => e = .returned (.string ⟨(Lib.join (ws.map T) [32]).toArray⟩) ∧ Below w.heap.size w w' := by
  obtain ⟨b, o, e, hb, hcl⟩ := hr.2 h0.1
  injection e with e
  injection e with e1 e2
  subst e1 e2
  have hm : (ws.map (fun x => (⟨(T x).toArray⟩ : ByteArray))).map (·.data.toList) = ws.map T := by
    rw [List.map_map]
    rfl
  have q := Tryz.strings_Join g 0 c (ws.map (fun x => (⟨(T x).toArray⟩ : ByteArray))) ⟨#[32]⟩ w (fun j x hx => by
    rw [List.getElem?_map, Option.map_eq_some_iff] at hx
    obtain ⟨y, hy, rfl⟩ := hx
    exact hcl j _ (by rw [List.getElem?_map, hy]; rfl)) hb (by rw [List.length_map]; omega) (by rw [List.length_map]; exact hc) (by rw [hm]; exact hlen)
  rw [hm, List.length_map] at q
  exact q
set_option maxHeartbeats 8000000 in
set_option maxRecDepth 100000 in
theorem ex_outcome (T : W3 → List UInt8) (P : W3 → Prop) (V : WorldV) (ws : List W3) (w : World) (hR : V.R w) (hw : ∀ W, Below w.heap.size w W → Calls Tryz.prog 48 #[.agg #[.slice (V.M).mem.pA (V.M).mem.hs.length (V.M).mem.pc, .slice (V.M).mem.vA (V.M).mem.vs.length (V.M).mem.vc, .slice (V.M).ln.fA (V.M).ln.first.length (V.M).ln.fc, .slice (V.M).ln.lA (V.M).ln.logs.length (V.M).ln.lc, .map (V.M).ln.asks, .slice (V.M).sA (V.M).steps.length (V.M).sc, .int .i64 (V.M).crashes]] W fun e w' => ∃ v : Value, e = .returned v ∧ w'.ownsRow W.heap.size 25 3 v ws.length (ws.flatMap w3c) ∧ Below W.heap.size W w') (hl0 : 0 < ws.length) (hl : ws.length ≤ 4096) (hT : ∀ x, P x → ∀ W, Below w.heap.size w W → Calls Tryz.prog 49 #[(.agg #[.int .i64 (x).v, .int .u32 (x).r, .int .u32 (x).f])] W fun e w' => e = .returned (.string ⟨(T x).toArray⟩) ∧ Below W.heap.size W w') (hws : ∀ x ∈ ws, P x) (hgs : ∀ k ∈ V.ts, ∀ g ∈ k.l, P ⟨g.v, g.r, g.f⟩) (hn : V.ts.length ≤ 1000) (hgm : ∀ k ∈ V.ts, k.m ≤ 100000) (hlen : (outT T ws (V.ts.map TaskV.l)).length ≤ 140737488355328) :
    Calls Tryz.prog 28 #[(.agg #[.slice ((V).M).mem.pA ((V).M).mem.hs.length ((V).M).mem.pc, .slice ((V).M).mem.vA ((V).M).mem.vs.length ((V).M).mem.vc, .slice ((V).M).ln.fA ((V).M).ln.first.length ((V).M).ln.fc, .slice ((V).M).ln.lA ((V).M).ln.logs.length ((V).M).ln.lc, .map ((V).M).ln.asks, .slice ((V).M).sA ((V).M).steps.length ((V).M).sc, .int .i64 ((V).M).crashes, .slice (V).tA (V).ts.length (V).tc, .slice (V).sA (V).ss.length (V).sc])] w fun e w' => e = .returned (.string ⟨(outT T ws (V.ts.map TaskV.l)).toArray⟩) ∧ Below w.heap.size w w' := by
  obtain ⟨i0, hi, iz0, iz1, iz2⟩ := info_parts info_str
  have Hi := hide hi
  have HR := hide hR
  have Hw := hide hw
  have HT := hide hT
  have Hws := hide hws
  have Hgs := hide hgs
  have Hgm := hide hgm
  have Hlen := hide hlen
  clear hR hw hT hws hgs hgm hlen hi
  go_enter Tryz.func28, Tryz.ntmps28
  go_upto_region 3 with (first
    | (go_at_call 48; refine (Hw.out _ (Below.alloc (Below.refl _ _) (Nat.le_refl _) _)).mono ?_; rintro e w1 ⟨v, rfl, hrow, hb1⟩; obtain ⟨A, cp, rfl, hcp, hA⟩ := own_slice hrow; have Hrow := hide hrow; have Hb1 := hide hb1; have hs1 := hb1.size; (try simp at hs1); clear hrow hb1))
  have hob : w1.heap[w.heap.size]? = some (.cells #[.slice V.M.mem.pA V.M.mem.hs.length V.M.mem.pc, .slice V.M.mem.vA V.M.mem.vs.length V.M.mem.vc, .slice V.M.ln.fA V.M.ln.first.length V.M.ln.fc, .slice V.M.ln.lA V.M.ln.logs.length V.M.ln.lc, .map V.M.ln.asks, .slice V.M.sA V.M.steps.length V.M.sc, .int .i64 V.M.crashes, .slice V.tA V.ts.length V.tc, .slice V.sA V.ss.length V.sc] 46 (0, 0)) := (Hb1.out.block w.heap.size (by simp)).trans (heap_new _ _ rfl)
  have HB1 : Hid (Below w.heap.size w w1) := hide ((Below.alloc (Below.refl _ _) (Nat.le_refl _) _).trans (Hb1.out.mono (by simp)))
  have Hob := hide hob
  have Hrow1 := hide (ownsRow_base_a Hrow.out (show w.heap.size ≤ _ by simp))
  clear hob Hb1 Hrow
  go_loopw [3, 15] (fun v i wr => ∃ k : Nat, i = .int .i64 k ∧ k ≤ ws.length ∧ Hid (wr.ownsRow w1.heap.size 9 1 v k ((ws.take k).map (strV T))) ∧ Hid (Below w1.heap.size w1 wr)) (fun _ i _ => ws.length - (intOf i).toNat)
  case atStart => exact ⟨0, rfl, by omega, hide (World.ownsRow_nil _ _ _ _), hide (Below.refl _ _)⟩
  case round =>
    obtain ⟨k, rfl, hk, Hown, HB⟩ := hrel
    have hzb : w.heap.size < w1.heap.size := by omega
    have hsr : w1.heap.size ≤ wr.heap.size := HB.out.size
    have hzr : w.heap.size < wr.heap.size := by omega
    have HBr := hide (HB1.out.trans (HB.out.mono (by omega)))
    by_cases hlt : (k : Int) < ws.length
    · have hk1 : k < ws.length := by omega
      obtain ⟨x, hx⟩ : ∃ x, ws[k]? = some x := ⟨_, List.getElem?_eq_getElem hk1⟩
      obtain ⟨gA, cp2, e, _, hgA, hrd⟩ := own_some (own_below Hrow1.out HB.out) (by omega)
      injection e with e1 e2 e3
      subst e1 e3
      clear e2
      obtain ⟨b', o', e', hb', hc'⟩ := Rd.elem hrd (fun a => (rfl : (w3c a).length = 3)) hk1 hx
      injection e' with e'
      injection e' with e4 e5
      subst e4 e5
      have x0 : wr.cell? ⟨gA, 0 + k * 3, none⟩ = some (.int .i64 x.v) := hc' 0 _ rfl
      have x1 := hc' 1 _ rfl
      have x2 := hc' 2 _ rfl
      rw [Nat.zero_add] at x0 x1 x2
      have htx := HT.out x (Hws.out x (List.mem_of_getElem? hx))
      have Htx := hide htx
      have Hx := hide hx
      have j0 : (0 : Int) ≤ (k : Int) := by omega
      clear hc' hrd htx hx
      have hi := Hi.out
      go_wp2_with (first
        | (go_at_call 49; refine (Htx.out _ (HBr.out.trans (Below.alloc (Below.refl _ _) (by omega) _))).mono ?_; rintro e w2 ⟨rfl, hb2⟩; have Hb2 := hide hb2; have hs2 := hb2.size; (try simp at hs2); clear hb2)
        | (at_builtin; (refine wpList_append_own _ rfl _ _ 51 rfl w1.heap.size 9 i0 _ 1 16 Tryz.underlying51 hi iz0 iz1 iz2 rfl (by decide) _ k ((ws.take k).map (strV T)) rfl (own_below Hown.out (((Below.alloc (Below.refl _ _) (Nat.le_refl _) _).trans (Hb2.out.mono (by simp))).trans (Below.alloc (Below.refl _ _) (by omega) _))) ⟨w2.heap.size, 0, none⟩ 1 1 [strV T x] rfl rfl ?o2 ?o3 ?o4 ?o5 ?o6 ?_)))
      case o2 =>
        intro j u hj
        match j, hj with
        | 0, hj => simp at hj; subst hj; simp [Addr.add, strV]
        | (j + 1), hj => simp at hj
      case o3 => exact strV_one T x
      case o4 => unfold maxLen; omega
      case o5 => omega
      case o6 => simp; omega
      intro v' w5 hown' hg _
      have hown5 : w5.ownsRow w1.heap.size 9 1 v' (k + 1) ((ws.take (k + 1)).map (strV T)) := by
        rw [map_take Hx.out, List.map_take]
        exact hown'
      have hB5 : Below w1.heap.size w1 w5 := below_grown ((HB.out.trans ((((Below.alloc (Below.refl _ _) (Nat.le_refl _) _).trans (Hb2.out.mono (by simp))).trans (Below.alloc (Below.refl _ _) (by omega) _)) |>.mono hsr))) hg (own_below Hown.out (((Below.alloc (Below.refl _ _) (Nat.le_refl _) _).trans (Hb2.out.mono (by simp))).trans (Below.alloc (Below.refl _ _) (by omega) _))) (Nat.le_refl _) (by simp; omega)
      have Hown5 := hide hown5
      have HB5 := hide hB5
      clear hown' hg hown5 hB5 hi
      go_wp2_with fail
      first
        | exact ⟨⟨k + 1, by go_num, by omega, Hown5, HB5⟩, by simp [intOf]; omega⟩
        | ((repeat apply Exists.intro); exact ⟨⟨k + 1, by go_num, by omega, Hown5, HB5⟩, by simp [intOf]; omega⟩)
    · obtain rfl : ws.length = k := by omega
      obtain ⟨gS, cS, e, hcS, hgS, hrS⟩ := own_some (by have q := Hown.out; rw [List.take_length] at q; exact q : wr.ownsRow w1.heap.size 9 1 _ ws.length (ws.map (strV T))) (by omega)
      subst e
      have hjoin := join_ws T ws gS cS wr hrS hcS (by have q := Hlen.out; unfold outT at q; rw [List.length_append] at q; omega) ⟨by omega, by omega⟩
      have Hjoin := hide hjoin
      have hobr := (HB.out.block w.heap.size hzb).trans Hob.out
      have c0 : wr.cell? ⟨w.heap.size, 0, none⟩ = some (.slice V.M.mem.pA V.M.mem.hs.length V.M.mem.pc) := by simp [World.cell?, hobr]
      have c1 : wr.cell? ⟨w.heap.size, 1, none⟩ = some (.slice V.M.mem.vA V.M.mem.vs.length V.M.mem.vc) := by simp [World.cell?, hobr]
      have c2 : wr.cell? ⟨w.heap.size, 2, none⟩ = some (.slice V.M.ln.fA V.M.ln.first.length V.M.ln.fc) := by simp [World.cell?, hobr]
      have c3 : wr.cell? ⟨w.heap.size, 3, none⟩ = some (.slice V.M.ln.lA V.M.ln.logs.length V.M.ln.lc) := by simp [World.cell?, hobr]
      have c4 : wr.cell? ⟨w.heap.size, 4, none⟩ = some (.map V.M.ln.asks) := by simp [World.cell?, hobr]
      have c5 : wr.cell? ⟨w.heap.size, 5, none⟩ = some (.slice V.M.sA V.M.steps.length V.M.sc) := by simp [World.cell?, hobr]
      have c6 : wr.cell? ⟨w.heap.size, 6, none⟩ = some (.int .i64 V.M.crashes) := by simp [World.cell?, hobr]
      have c7 : wr.cell? ⟨w.heap.size, 7, none⟩ = some (.slice V.tA V.ts.length V.tc) := by simp [World.cell?, hobr]
      have c8 : wr.cell? ⟨w.heap.size, 8, none⟩ = some (.slice V.sA V.ss.length V.sc) := by simp [World.cell?, hobr]
      clear hjoin hrS Hown hobr
      go_upto_region 9 with (first
        | (go_at_call 50; refine Hjoin.out.mono ?_; rintro e w2 ⟨rfl, hb2⟩; have Hb2 := hide hb2; have hs2 := hb2.size; have hobr2 := (hb2.block w.heap.size hzr).trans ((HB.out.block w.heap.size hzb).trans Hob.out); have d0 : w2.cell? ⟨w.heap.size, 0, none⟩ = some (.slice V.M.mem.pA V.M.mem.hs.length V.M.mem.pc) := (by simp [World.cell?, hobr2]); have d1 : w2.cell? ⟨w.heap.size, 1, none⟩ = some (.slice V.M.mem.vA V.M.mem.vs.length V.M.mem.vc) := (by simp [World.cell?, hobr2]); have d2 : w2.cell? ⟨w.heap.size, 2, none⟩ = some (.slice V.M.ln.fA V.M.ln.first.length V.M.ln.fc) := (by simp [World.cell?, hobr2]); have d3 : w2.cell? ⟨w.heap.size, 3, none⟩ = some (.slice V.M.ln.lA V.M.ln.logs.length V.M.ln.lc) := (by simp [World.cell?, hobr2]); have d4 : w2.cell? ⟨w.heap.size, 4, none⟩ = some (.map V.M.ln.asks) := (by simp [World.cell?, hobr2]); have d5 : w2.cell? ⟨w.heap.size, 5, none⟩ = some (.slice V.M.sA V.M.steps.length V.M.sc) := (by simp [World.cell?, hobr2]); have d6 : w2.cell? ⟨w.heap.size, 6, none⟩ = some (.int .i64 V.M.crashes) := (by simp [World.cell?, hobr2]); have d7 : w2.cell? ⟨w.heap.size, 7, none⟩ = some (.slice V.tA V.ts.length V.tc) := (by simp [World.cell?, hobr2]); have d8 : w2.cell? ⟨w.heap.size, 8, none⟩ = some (.slice V.sA V.ss.length V.sc) := (by simp [World.cell?, hobr2]); clear hb2 hobr2))
      have hB2 : Below w1.heap.size w1 w2 := HB.out.trans (Hb2.out.mono hsr)
      have hB2w : Below w.heap.size w w2 := HBr.out.trans (Hb2.out.mono (by omega))
      have HB2 := hide hB2w
      clear hB2 hB2w
      go_loopw [6, 30] (fun s i wq => ∃ k : Nat, i = .int .i64 k ∧ k ≤ V.ts.length ∧ s = .string ⟨(Lib.join (ws.map T) [32] ++ ((V.ts.map TaskV.l).take k).flatMap (taskO T)).toArray⟩ ∧ Hid (Below w.heap.size w wq)) (fun _ i _ => V.ts.length - (intOf i).toNat)
      case atStart => exact ⟨0, rfl, by omega, by simp, HB2⟩
      case round =>
        obtain ⟨k, rfl, hk, hs, HBq⟩ := hrel
        obtain ⟨pre, hpre⟩ : ∃ p, p = Lib.join (ws.map T) [32] ++ ((V.ts.map TaskV.l).take k).flatMap (taskO T) := ⟨_, rfl⟩
        rw [← hpre] at hs
        subst hs
        have Hpre := hide hpre
        clear hpre
        have hzq : w.heap.size ≤ wr.heap.size := HBq.out.size
        by_cases hltk : (k : Int) < V.ts.length
        · have hk1 : k < V.ts.length := by omega
          obtain ⟨t, htk⟩ : ∃ t, V.ts[k]? = some t := ⟨_, List.getElem?_eq_getElem hk1⟩
          obtain ⟨bl, of, e1, hbl, hcl⟩ := Rd.elem HR.out.2.1.2.2.1 taskc_len hk1 htk
          have hBw0 := HBq.out
          obtain ⟨htg0, htok⟩ := HR.out.2.1.2.2.2 t (List.mem_of_getElem? htk)
          have htm := Hgm.out t (List.mem_of_getElem? htk)
          have hlm := gots_length htg0
          have hgP := Hgs.out t (List.mem_of_getElem? htk)
          have t0 : wr.cell? ⟨bl, of + k * 11, none⟩ = some (t.c) := (hBw0.cell (p := ⟨bl, of + k * 11, none⟩) hbl).trans (hcl 0 _ rfl)
          have t1 : wr.cell? ⟨bl, of + k * 11 + 1, none⟩ = some (t.nx) := (hBw0.cell (p := ⟨bl, of + k * 11 + 1, none⟩) hbl).trans (hcl 1 _ rfl)
          have t2 : wr.cell? ⟨bl, of + k * 11 + 2, none⟩ = some (.int .i64 t.a.o) := (hBw0.cell (p := ⟨bl, of + k * 11 + 2, none⟩) hbl).trans (hcl 2 _ rfl)
          have t3 : wr.cell? ⟨bl, of + k * 11 + 3, none⟩ = some (.int .i64 t.a.l) := (hBw0.cell (p := ⟨bl, of + k * 11 + 3, none⟩) hbl).trans (hcl 3 _ rfl)
          have t4 : wr.cell? ⟨bl, of + k * 11 + 4, none⟩ = some (.int .i64 t.a.v) := (hBw0.cell (p := ⟨bl, of + k * 11 + 4, none⟩) hbl).trans (hcl 4 _ rfl)
          have t5 : wr.cell? ⟨bl, of + k * 11 + 5, none⟩ = some (.int .u32 t.a.r) := (hBw0.cell (p := ⟨bl, of + k * 11 + 5, none⟩) hbl).trans (hcl 5 _ rfl)
          have t6 : wr.cell? ⟨bl, of + k * 11 + 6, none⟩ = some (.int .u32 t.a.f) := (hBw0.cell (p := ⟨bl, of + k * 11 + 6, none⟩) hbl).trans (hcl 6 _ rfl)
          have t7 : wr.cell? ⟨bl, of + k * 11 + 7, none⟩ = some (.int .i64 t.a.v2) := (hBw0.cell (p := ⟨bl, of + k * 11 + 7, none⟩) hbl).trans (hcl 7 _ rfl)
          have t8 : wr.cell? ⟨bl, of + k * 11 + 8, none⟩ = some (.int .u32 t.a.r2) := (hBw0.cell (p := ⟨bl, of + k * 11 + 8, none⟩) hbl).trans (hcl 8 _ rfl)
          have t9 : wr.cell? ⟨bl, of + k * 11 + 9, none⟩ = some (.int .u32 t.a.f2) := (hBw0.cell (p := ⟨bl, of + k * 11 + 9, none⟩) hbl).trans (hcl 9 _ rfl)
          have t10 : wr.cell? ⟨bl, of + k * 11 + 10, none⟩ = some (.slice t.A t.m t.cp) := (hBw0.cell (p := ⟨bl, of + k * 11 + 10, none⟩) hbl).trans (hcl 10 _ rfl)
          obtain ⟨hsto1, hsto2⟩ := htok.sto
          unfold StoV at hsto1 hsto2
          have hgots := fun W (hW : Below w.heap.size w W) => task_gots t W (htg0.below hW) (by omega)
          have htl : (V.ts.map TaskV.l)[k]? = some t.l := by rw [List.getElem?_map, htk]; rfl
          have hlp : pre.length + 1 + (t.l.flatMap (gotO T)).length ≤ 140737488355328 := by
            have q1 := flat_le (g := taskO T) (l := V.ts.map TaskV.l) (k + 1)
            rw [flat_take htl] at q1
            have q2 := Hlen.out
            have q3 : (taskO T t.l).length = 1 + (t.l.flatMap (gotO T)).length := by unfold taskO; simp only [List.length_append, List.length_cons, List.length_nil]
            have q4 : pre.length = (Lib.join (ws.map T) [32]).length + (((V.ts.map TaskV.l).take k).flatMap (taskO T)).length := by rw [Hpre.out, List.length_append]
            unfold outT at q2
            simp only [List.length_append] at q1 q2
            omega
          have hl1 : pre.length + 1 ≤ 140737488355328 := by omega
          have Hlp := hide hlp
          have Hgots := hide hgots
          have Htl := hide htl
          have Hlm := hide hlm
          have HgP := hide hgP
          have he1 : V.tA = some ⟨bl, of, none⟩ := e1
          have j0 : (0 : Int) ≤ (k : Int) := by omega
          clear hlp hcl htg0 htok hgots htl hlm hgP hBw0 htk e1
          go_upto_region 13 with (first
            | (go_at_call 43; refine (Hgots.out _ (HBq.out.trans (Below.alloc (Below.refl _ _) (by omega) _))).mono ?_; rintro e w3 ⟨A', cap', rfl, how, hb3⟩; have How := hide how; have Hb3 := hide hb3; have hs3 := hb3.size; (try simp at hs3); clear how hb3))
          have HB3 := hide (HBq.out.trans ((Below.alloc (Below.refl _ _) (Nat.le_refl _) _).trans (Hb3.out.mono (by simp)) |>.mono hzq))
          clear t0 t1 t2 t3 t4 t5 t6 t7 t8 t9 t10
          go_loopw [6, 39] (fun s i wq => ∃ j : Nat, i = .int .i64 j ∧ j ≤ t.m ∧ s = .string ⟨(pre ++ [59] ++ (t.l.take j).flatMap (gotO T)).toArray⟩ ∧ Hid (Below w3.heap.size w3 wq)) (fun _ i _ => t.m - (intOf i).toNat)
          case atStart => exact ⟨0, rfl, by omega, by rw [show (#[59] : Array UInt8) = [59].toArray from rfl, str_app]; simp, hide (Below.refl _ _)⟩
          case round =>
            obtain ⟨j, rfl, hj, hs, HBj⟩ := hrel
            obtain ⟨pr3, hpr3⟩ : ∃ p, p = pre ++ [59] ++ (t.l.take j).flatMap (gotO T) := ⟨_, rfl⟩
            rw [← hpr3] at hs
            subst hs
            have Hpr3 := hide hpr3
            clear hpr3
            have hsj : w3.heap.size ≤ wr.heap.size := HBj.out.size
            by_cases hltj : (j : Int) < t.m
            · have hj1 : j < t.m := by omega
              obtain ⟨g, hgj⟩ : ∃ g, t.l[j]? = some g := ⟨_, List.getElem?_eq_getElem (by rw [Hlm.out]; exact hj1)⟩
              obtain ⟨gA, cp2, e, _, hgA, hrd⟩ := own_some (own_below How.out HBj.out) (by omega)
              injection e with e1 e2 e3
              subst e1 e3
              clear e2
              obtain ⟨b', o', e', hb', hc'⟩ := Rd.elem hrd gotc_len hj1 hgj
              injection e' with e'
              injection e' with e4 e5
              subst e4 e5
              have x0 : wr.cell? ⟨gA, 0 + j * 4, none⟩ = some (.int .i64 g.v) := hc' 0 _ rfl
              have x1 := hc' 1 _ rfl
              have x2 := hc' 2 _ rfl
              have x3 : wr.cell? ⟨gA, 0 + j * 4 + 3, none⟩ = some (.bool g.k) := hc' 3 _ rfl
              rw [Nat.zero_add] at x0 x1 x2 x3
              have htx := HT.out _ (HgP.out g (List.mem_of_getElem? hgj))
              have Htx := hide htx
              have hlg : pr3.length + (1 + (T ⟨g.v, g.r, g.f⟩).length) + (bangT g.k).length ≤ 140737488355328 := by
                have q1 := flat_le (g := gotO T) (l := t.l) (j + 1)
                rw [flat_take hgj] at q1
                have q2 := Hlp.out
                have q3 : (gotO T g).length = 1 + (T ⟨g.v, g.r, g.f⟩).length + (bangT g.k).length := by unfold gotO; simp only [List.length_append, List.length_cons, List.length_nil]
                have q4 : pr3.length = pre.length + 1 + ((t.l.take j).flatMap (gotO T)).length := by rw [Hpr3.out]; simp only [List.length_append, List.length_cons, List.length_nil]
                simp only [List.length_append] at q1
                omega
              have hgo : ∀ b, g.k = b → gotO T g = [32] ++ T ⟨g.v, g.r, g.f⟩ ++ bangT b := fun b e => by unfold gotO; rw [e]
              have HBjw := hide (HB3.out.trans (HBj.out.mono (by omega)))
              have hzj : w.heap.size ≤ wr.heap.size := by omega
              have Hgj := hide hgj
              have Hgo := hide hgo
              have j1 : (0 : Int) ≤ (j : Int) := by omega
              clear hc' hrd htx hgj hgo
              obtain ⟨gt, hgt⟩ : ∃ x, x = T ⟨g.v, g.r, g.f⟩ := ⟨_, rfl⟩
              rw [← hgt] at hlg
              have Hgt := hide hgt
              clear hgt
              cases hgk : g.k with
              | true =>
                rw [hgk] at x3 hlg
                have hlg2 : pr3.length + (1 + gt.length) ≤ 140737488355328 := by omega
                have hgg := Hgo.out true hgk
                have heq : (⟨pr3.toArray⟩ : ByteArray) ++ (⟨#[32]⟩ ++ ⟨gt.toArray⟩) = ⟨(pre ++ [59] ++ (t.l.take (j + 1)).flatMap (gotO T)).toArray⟩ := by
                  rw [flat_take Hgj.out, hgg, ← Hgt.out, ← List.append_assoc (pre ++ [59]), ← Hpr3.out, show (#[32] : Array UInt8) = [32].toArray from rfl, str_app, str_app]
                  simp [bangT, List.append_assoc]
                have Heq := hide heq
                clear hlg hgk hgg heq
                go_wp2_with (first
                  | (go_at_call 49; refine (Htx.out _ (HBjw.out.trans (Below.alloc (Below.refl _ _) hzj _))).mono ?_; rintro e w4 ⟨rfl, hb4⟩; rw [← Hgt.out]; obtain ⟨hcc4, hff4⟩ := bcell hb4; have Hb4 := hide hb4; have hs4 := hb4.size; (try simp at hs4); have hz4 : wr.heap.size < w4.heap.size := (by omega)))
                have HB4 := hide (HBj.out.trans ((Below.alloc (Below.refl _ _) (Nat.le_refl _) _).trans (Hb4.out.mono (by simp)) |>.mono hsj))
                have hsv := congrArg Value.string Heq.out
                first
                  | exact ⟨⟨j + 1, by go_num, by omega, hsv, HB4⟩, by simp [intOf]; omega⟩
                  | ((repeat apply Exists.intro); exact ⟨⟨j + 1, by go_num, by omega, hsv, HB4⟩, by simp [intOf]; omega⟩)
              | false =>
                rw [hgk] at x3 hlg
                have hlg2 : pr3.length + (1 + gt.length) + 1 ≤ 140737488355328 := by simp only [bangT, List.length_cons, List.length_nil, Bool.false_eq_true, if_false] at hlg; omega
                have hgg := Hgo.out false hgk
                have heq : (⟨pr3.toArray⟩ : ByteArray) ++ (⟨#[32]⟩ ++ ⟨gt.toArray⟩) ++ ⟨#[33]⟩ = ⟨(pre ++ [59] ++ (t.l.take (j + 1)).flatMap (gotO T)).toArray⟩ := by
                  rw [flat_take Hgj.out, hgg, ← Hgt.out, ← List.append_assoc (pre ++ [59]), ← Hpr3.out, show (#[32] : Array UInt8) = [32].toArray from rfl, show (#[33] : Array UInt8) = [33].toArray from rfl, str_app, str_app, str_app]
                  simp [bangT, List.append_assoc]
                have Heq := hide heq
                clear hlg hgk hgg heq
                go_wp2_with (first
                  | (go_at_call 49; refine (Htx.out _ (HBjw.out.trans (Below.alloc (Below.refl _ _) hzj _))).mono ?_; rintro e w4 ⟨rfl, hb4⟩; rw [← Hgt.out]; obtain ⟨hcc4, hff4⟩ := bcell hb4; have Hb4 := hide hb4; have hs4 := hb4.size; (try simp at hs4); have hz4 : wr.heap.size < w4.heap.size := (by omega)))
                have HB4 := hide (HBj.out.trans ((Below.alloc (Below.refl _ _) (Nat.le_refl _) _).trans (Hb4.out.mono (by simp)) |>.mono hsj))
                have hsv := congrArg Value.string Heq.out
                first
                  | exact ⟨⟨j + 1, by go_num, by omega, hsv, HB4⟩, by simp [intOf]; omega⟩
                  | ((repeat apply Exists.intro); exact ⟨⟨j + 1, by go_num, by omega, hsv, HB4⟩, by simp [intOf]; omega⟩)
            · obtain rfl : t.m = j := by omega
              have heq : pr3 = Lib.join (ws.map T) [32] ++ ((V.ts.map TaskV.l).take (k + 1)).flatMap (taskO T) := by
                rw [Hpr3.out, flat_take Htl.out, ← List.append_assoc, ← Hpre.out, ← Hlm.out, List.take_length]
                unfold taskO
                rw [List.append_assoc]
              have HBk := hide (HB3.out.trans (HBj.out.mono (by omega)))
              have Heq := hide heq
              clear heq
              go_wp2_with fail
              have hsv := congrArg (fun l : List UInt8 => Value.string ⟨l.toArray⟩) Heq.out
              exact ⟨⟨.string ⟨pr3.toArray⟩, _, _, .int .i64 ((k : Int) + 1), ⟨k + 1, by first | rfl | go_num, by omega, hsv⟩, rfl, rfl, rfl, rfl⟩, by simp [intOf]; omega⟩
        · obtain rfl : V.ts.length = k := by omega
          have heq : pre = outT T ws (V.ts.map TaskV.l) := by
            have q := Hpre.out
            rw [List.take_of_length_le (by rw [List.length_map]; omega)] at q
            exact q
          have Heq := hide heq
          clear heq
          go_wp2_with fail
          go_ret
          exact ⟨by rw [← Heq.out]; rfl, HBq.out⟩
end Go.Proofs.YtfdndkgjmmeafaaGreatDoor

