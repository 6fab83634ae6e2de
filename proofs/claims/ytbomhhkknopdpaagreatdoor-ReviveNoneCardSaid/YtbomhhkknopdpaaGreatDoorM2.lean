/- Package desc: Words. -/
import Derived.Test.YtbomhhkknopdpaaGreatDoorD2
import Derived.Test.YtbomhhkknopdpaaGreatDoorR3
import Derived.Test.YtbomhhkknopdpaaGreatDoorAp3
import Derived.Laws.OwnMore
namespace Go.Proofs.YtbomhhkknopdpaaGreatDoor
set_option linter.unusedSimpArgs false
set_option linter.unusedVariables false
open Go.RowKit
theorem rd_alloc {w : World} {cs : Array Value} {t : TypeId} {n size : Nat} {xs : List Value} (hx : xs = cs.toList) (hl : xs.length = n * size) : Rd (w.alloc (.cells cs t)) (w.alloc (.cells cs t)).heap.size size (some ⟨w.heap.size, 0, none⟩) n xs := by
  subst hx
  refine ⟨hl, fun _ => ⟨w.heap.size, 0, rfl, by simp, fun j u hu => ?_⟩⟩
  have hh : (w.alloc (.cells cs t)).heap[w.heap.size]? = some (.cells cs t (0, 0)) := heap_alloc_new w _
  rw [Nat.zero_add]
  simp only [World.cell?, hh]
  rw [← Array.getElem?_toList]
  exact hu
/-- The three words of an entry, as a list. -/
def pack3 (e : En) : List W3 := [(packL e).1, (packL e).2.1, (packL e).2.2]
def dwordsL (seq st : Int) (es : List En) : List W3 := [⟨st, seq, 0⟩, ⟨es.length, 0, 0⟩] ++ es.flatMap pack3
theorem pack3_len (es : List En) : (es.flatMap pack3).length = 3 * es.length := by
  induction es with
  | nil => rfl
  | cons e es ih => rw [List.flatMap_cons, List.length_append, ih]; simp [pack3]; omega
theorem dwordsL_len (seq st : Int) (es : List En) : (dwordsL seq st es).length = 2 + 3 * es.length := by unfold dwordsL; rw [List.length_append, pack3_len]; rfl
def dwTo (seq st : Int) (n : Nat) (es : List En) : List W3 := [⟨st, seq, 0⟩, ⟨n, 0, 0⟩] ++ es.flatMap pack3
theorem dwTo_snoc (seq st : Int) (n : Nat) (es : List En) (e : En) : dwTo seq st n (es ++ [e]) = dwTo seq st n es ++ pack3 e := by unfold dwTo; rw [List.flatMap_append, List.append_assoc]; simp
/-- A function's answer is a slice of words of its own, and OK. -/
def DWGood (ws : List W3) (n : Nat) (w : World) (e : Ending) (w' : World) : Prop := ∃ (A : Option Addr) (cap : Nat), e = .returned (.tuple #[.slice A n cap, .int .i64 0]) ∧ Rd w' w'.heap.size 3 A n (ws.flatMap w3c) ∧ (∀ b off, A = some ⟨b, off, none⟩ → w.heap.size ≤ b) ∧ Below w.heap.size w w'
theorem checkD_ok {T C B who seq st : Int} {es : List En} (h : checkD T C B who seq st es = 0) : 1 ≤ seq ∧ seq ≤ 16777215 ∧ es.length ≤ 32 := by
  unfold checkD at h
  split at h
  · cases h
  · split at h
    · cases h
    · split at h
      · cases h
      · split at h
        · exact absurd h (by assumption)
        · split at h
          · cases h
          · split at h
            · cases h
            · split at h
              · cases h
              · have := placeN_le T C B who
                omega
theorem ownsRow_lit2 (w : World) (cs : Array Value) (t : TypeId) (n size : Nat) (hm : n ≤ maxLen) (hs : cs.size = n * size) : (w.alloc (.cells cs t)).ownsRow w.heap.size t size (.slice (some ⟨w.heap.size, 0, none⟩) n n) n cs.toList := World.ownsRow_lit w cs n (Nat.le_refl _) hm hs
set_option maxRecDepth 100000 in
theorem dwords_bad (T C B who seq st : Int) (A : Option Addr) (n cap : Nat) (es : List En) (w : World) (hv : Valid T C B) (hs : Sizes w) (h0 : -1000 ≤ who) (h1 : who ≤ 1000) (hr : Rd w w.heap.size 6 A n (es.flatMap ec)) (hl : es.length = n) (hn : n ≤ 1000) (hcap : n ≤ cap) (hc2 : cap ≤ maxLen) (hok : ∀ e ∈ es, e.ok) (hE : checkD T C B who seq st es ≠ 0) :
    Calls Tryz.prog 18 #[(.agg #[.int .i64 T, .int .i64 C, .int .i64 B]), (.agg #[.int .i64 who, .int .i64 seq, .int .i64 st, .slice A n cap])] w fun e w' => e = .returned (.tuple #[.slice none 0 0, .int .i64 (checkD T C B who seq st es)]) ∧ Below w.heap.size w w' := by
  have hp := hs.pos
  have hck := fun W hs' hr' => checkd_any T C B who seq st A n cap es W hv hs' h0 h1 hr' hl hn hcap hc2 hok
  obtain ⟨E, hEe⟩ : ∃ E, E = checkD T C B who seq st es := ⟨_, rfl⟩
  simp only [← hEe] at hck hE ⊢
  have Hck := hide hck
  have Hr := hide hr
  have hzb : (E != 0) = true := by simp [hE]
  clear hck hr hl hEe hok hE
  go_enter Tryz.func18, Tryz.ntmps18
  go_wp2_with (first
    | (go_at_call 48; refine (Hck.out _ (hs.below (by repeat' (first | with_reducible exact Below.refl _ _ | with_reducible assumption | with_reducible refine Below.alloc ?_ ?_ _ | with_reducible refine Below.setCell ?_ ?_ _ | with_reducible refine Below.drew ?_ | with_reducible refine below_drewN ?_ _ | with_reducible refine Below.trans ?_ (Below.mono (by with_reducible assumption) ?_) | omega | (simp <;> omega)))) ((Hr.out.below (by repeat' (first | with_reducible exact Below.refl _ _ | with_reducible assumption | with_reducible refine Below.alloc ?_ ?_ _ | with_reducible refine Below.setCell ?_ ?_ _ | with_reducible refine Below.drew ?_ | with_reducible refine below_drewN ?_ _ | with_reducible refine Below.trans ?_ (Below.mono (by with_reducible assumption) ?_) | omega | (simp <;> omega)))).more (by simp; omega))).mono ?_; rintro e w1 ⟨rfl, hb1⟩; obtain ⟨hcc1, hff1⟩ := bcell hb1; have hs1 := hb1.size; (try simp at hs1); have hz1 : w.heap.size < w1.heap.size := (by omega); have hy1 : w.heap.size + 1 < w1.heap.size := (by omega); have hq1 : 0 < w1.heap.size := (by omega)))
  go_ret2
  exact ⟨rfl, (by repeat' (first | with_reducible exact Below.refl _ _ | with_reducible assumption | with_reducible refine Below.alloc ?_ ?_ _ | with_reducible refine Below.setCell ?_ ?_ _ | with_reducible refine Below.drew ?_ | with_reducible refine below_drewN ?_ _ | with_reducible refine Below.trans ?_ (Below.mono (by with_reducible assumption) ?_) | omega | (simp <;> omega)))⟩
theorem words3 (x y z : W3) : [x, y, z].flatMap w3c = [.int .i64 x.v, .int .u32 x.r, .int .u32 x.f, .int .i64 y.v, .int .u32 y.r, .int .u32 y.f, .int .i64 z.v, .int .u32 z.r, .int .u32 z.f] := rfl
set_option maxHeartbeats 8000000 in
set_option maxRecDepth 100000 in
theorem dwords_good (T C B who seq st : Int) (A : Option Addr) (n cap : Nat) (es : List En) (w : World) (hv : Valid T C B) (hs : Sizes w) (h0 : -1000 ≤ who) (h1 : who ≤ 1000) (hr : Rd w w.heap.size 6 A n (es.flatMap ec)) (hl : es.length = n) (hn : n ≤ 1000) (hcap : n ≤ cap) (hc2 : cap ≤ maxLen) (hok : ∀ e ∈ es, e.ok) (hE : checkD T C B who seq st es = 0) :
    Calls Tryz.prog 18 #[(.agg #[.int .i64 T, .int .i64 C, .int .i64 B]), (.agg #[.int .i64 who, .int .i64 seq, .int .i64 st, .slice A n cap])] w (DWGood (dwordsL seq st es) (2 + 3 * n) w) := by
  have hp := hs.pos
  obtain ⟨i0, hi, iz0, iz1, iz2⟩ := info_parts info_word
  have hck := fun W hs' hr' => checkd_any T C B who seq st A n cap es W hv hs' h0 h1 hr' hl hn hcap hc2 hok
  obtain ⟨q1, q2, q3⟩ := checkD_ok hE
  rw [hE] at hck
  have Hck := hide hck
  have Hr := hide hr
  have Hl := hide hl
  obtain ⟨R, hR⟩ : ∃ R, R = dwordsL seq st es := ⟨_, rfl⟩
  rw [← hR]
  have HR : Hid (R = dwTo seq st n es) := hide (by rw [hR, dwordsL, hl]; rfl)
  rw [hl] at q3
  clear hck hr hl hE hok hR
  go_enter Tryz.func18, Tryz.ntmps18
  go_wp2_with (first
    | (go_at_call 48; refine (Hck.out _ (hs.below (by repeat' (first | with_reducible exact Below.refl _ _ | with_reducible assumption | with_reducible refine Below.alloc ?_ ?_ _ | with_reducible refine Below.setCell ?_ ?_ _ | with_reducible refine Below.drew ?_ | with_reducible refine below_drewN ?_ _ | with_reducible refine Below.trans ?_ (Below.mono (by with_reducible assumption) ?_) | omega | (simp <;> omega)))) ((Hr.out.below (by repeat' (first | with_reducible exact Below.refl _ _ | with_reducible assumption | with_reducible refine Below.alloc ?_ ?_ _ | with_reducible refine Below.setCell ?_ ?_ _ | with_reducible refine Below.drew ?_ | with_reducible refine below_drewN ?_ _ | with_reducible refine Below.trans ?_ (Below.mono (by with_reducible assumption) ?_) | omega | (simp <;> omega)))).more (by simp; omega))).mono ?_; rintro e w1 ⟨rfl, hb1⟩; obtain ⟨hcc1, hff1⟩ := bcell hb1; have hs1 := hb1.size; (try simp at hs1); have hz1 : w.heap.size < w1.heap.size := (by omega); have hy1 : w.heap.size + 1 < w1.heap.size := (by omega); have hq1 : 0 < w1.heap.size := (by omega)))
  have e0 : w1.cell? ⟨w.heap.size, 0, none⟩ = some (.int .i64 T) := by go_simp
  have e1 : w1.cell? ⟨w.heap.size, 1, none⟩ = some (.int .i64 C) := by go_simp
  have e2 : w1.cell? ⟨w.heap.size, 2, none⟩ = some (.int .i64 B) := by go_simp
  have d0 : w1.cell? ⟨w.heap.size + 1, 0, none⟩ = some (.int .i64 who) := by go_simp
  have d1 : w1.cell? ⟨w.heap.size + 1, 1, none⟩ = some (.int .i64 seq) := by go_simp
  have d2 : w1.cell? ⟨w.heap.size + 1, 2, none⟩ = some (.int .i64 st) := by go_simp
  have d3 : w1.cell? ⟨w.heap.size + 1, 3, none⟩ = some (.slice A n cap) := by go_simp
  have hB1 : Below w.heap.size w w1 := (by repeat' (first | with_reducible exact Below.refl _ _ | with_reducible assumption | with_reducible refine Below.alloc ?_ ?_ _ | with_reducible refine Below.setCell ?_ ?_ _ | with_reducible refine Below.drew ?_ | with_reducible refine below_drewN ?_ _ | with_reducible refine Below.trans ?_ (Below.mono (by with_reducible assumption) ?_) | omega | (simp <;> omega)))
  have HS1 := hide (hs.below hB1)
  have Hr1 := hide (Hr.out.below hB1)
  clear hcc1 hff1 hb1
  go_region_held3 (fun w' => w'.cell? ⟨w.heap.size + 1, 0, none⟩ = some (.int .i64 who) ∧ w'.cell? ⟨w.heap.size + 1, 1, none⟩ = some (.int .i64 seq) ∧ w'.cell? ⟨w.heap.size + 1, 2, none⟩ = some (.int .i64 st) ∧ w'.cell? ⟨w.heap.size + 1, 3, none⟩ = some (.slice A n cap))
    (first | exact ⟨d0, d1, d2, d3⟩ | go_keep)
    (first
      | (go_at_call 49; refine (status_any st seq _ (by omega) (by omega)).mono ?_; rintro e' w2 ⟨rfl, hb2'⟩; have hb2 : Below _ _ w2 := (by first | with_reducible exact noDrew hb2' | exact hb2'); clear hb2'; obtain ⟨hcc2, hff2⟩ := bcell hb2; have hs2 := hb2.size; (try simp at hs2); have hz2 : w.heap.size < w2.heap.size := (by omega); have hy2 : w.heap.size + 1 < w2.heap.size := (by omega)))
  go_wp2_with fail
  have Hr2 := hide (Hr1.out.below (hb2.mono (by omega)))
  have hB2 : Below w.heap.size w w2 := hB1.trans (hb2.mono (by omega))
  have c0 := (hcc2 _ 0 hy1).trans d0
  have c1 := (hcc2 _ 1 hy1).trans d1
  have c2 := (hcc2 _ 2 hy1).trans d2
  have c3 := (hcc2 _ 3 hy1).trans d3
  clear hcc2 hff2 d0 d1 d2 d3
  go_loopw [30, 7] (fun i v wr => ∃ k : Nat, i = .int .i64 k ∧ k ≤ n ∧ wr.ownsRow w2.heap.size 62 3 v (2 + 3 * k) ((dwTo seq st n (es.take k)).flatMap w3c) ∧ Below w2.heap.size w2 wr) (fun i _ _ => n - (intOf i).toNat)
  case atStart => exact ⟨0, by go_num, by omega, ownsRow_lit2 w2 #[.int .i64 st, .int .u32 seq, .int .u32 0, .int .i64 n, .int .u32 0, .int .u32 0] 62 2 3 (by decide) rfl, (by repeat' (first | with_reducible exact Below.refl _ _ | with_reducible assumption | with_reducible refine Below.alloc ?_ ?_ _ | with_reducible refine Below.setCell ?_ ?_ _ | with_reducible refine Below.drew ?_ | with_reducible refine below_drewN ?_ _ | with_reducible refine Below.trans ?_ (Below.mono (by with_reducible assumption) ?_) | omega | (simp <;> omega)))⟩
  case round =>
    obtain ⟨k, rfl, hk, hown, hB⟩ := hrel
    obtain ⟨A0, cap0, rfl, hcp0, hbl0⟩ := own_slice hown
    have hsz := hB.size
    have hBr : Below w.heap.size w wr := hB2.trans (hB.mono (by omega))
    by_cases hlt : k < n
    · have hz1 : es[k]? = some (es[k]'(by rw [Hl.out]; omega)) := List.getElem?_eq_getElem _
      obtain ⟨b2, off, rfl, hbb, hcA⟩ := Hr2.out.elem (fun _ => rfl) hlt hz1
      obtain ⟨e, he⟩ : ∃ e, e = es[k]'(by rw [Hl.out]; omega) := ⟨_, rfl⟩
      rw [← he] at hcA hz1
      have hbb2 : b2 < w2.heap.size := by omega
      have hbw : ∀ j u, (ec e)[j]? = some u → wr.cell? ⟨b2, off + k * 6 + j, none⟩ = some u := fun j u hu => (hB.cell (p := ⟨b2, off + k * 6 + j, none⟩) hbb2).trans (hcA j u hu)
      have l0 : wr.cell? ⟨b2, off + k * 6, none⟩ = some (.int .i64 e.a) := hbw 0 _ rfl
      have l1 : wr.cell? ⟨b2, off + k * 6 + 1, none⟩ = some (.int .i64 e.o.v) := hbw 1 _ rfl
      have l2 : wr.cell? ⟨b2, off + k * 6 + 2, none⟩ = some (.int .u32 e.o.r) := hbw 2 _ rfl
      have l3 : wr.cell? ⟨b2, off + k * 6 + 3, none⟩ = some (.int .u32 e.o.f) := hbw 3 _ rfl
      have l4 : wr.cell? ⟨b2, off + k * 6 + 4, none⟩ = some (.int .i64 e.n) := hbw 4 _ rfl
      have l5 : wr.cell? ⟨b2, off + k * 6 + 5, none⟩ = some (.bool e.w) := hbw 5 _ rfl
      have hki : (0 : Int) ≤ (k : Int) := by omega
      have hkj : (k : Int) < (n : Int) := by omega
      have htake : es.take (k + 1) = es.take k ++ [e] := by rw [List.take_add_one, hz1]; rfl
      have Hst : Hid ((dwTo seq st n (es.take (k + 1))).flatMap w3c = (dwTo seq st n (es.take k)).flatMap w3c ++ (pack3 e).flatMap w3c) := hide (by
        rw [htake, dwTo_snoc, List.flatMap_append])
      have Hpk := hide (fun W => pack_any e W)
      obtain ⟨x, hx⟩ : ∃ x, x = (packL e).1 := ⟨_, rfl⟩
      obtain ⟨y, hy⟩ : ∃ x, x = (packL e).2.1 := ⟨_, rfl⟩
      obtain ⟨z, hz⟩ : ∃ x, x = (packL e).2.2 := ⟨_, rfl⟩
      have hp3 : pack3 e = [x, y, z] := by rw [hx, hy, hz]; rfl
      rw [hp3, words3] at Hst
      have Hx := hide hx
      have Hy := hide hy
      have Hz := hide hz
      have hvr : b2 < wr.heap.size := by omega
      clear hcA hbw he hz1 htake hx hy hz hp3
      go_wp2_with (first
        | (go_at_call 50; refine (Hpk.out _).mono ?_; rintro e' w5 ⟨rfl, hb5⟩; rw [← Hx.out, ← Hy.out, ← Hz.out]; obtain ⟨hcc5, hff5⟩ := bcell hb5; have hs5 := hb5.size; (try simp at hs5))
        | (at_builtin; refine wpList_append_rd rfl _ _ 25 rfl w2.heap.size 62 i0 _ 3 16 Tryz.underlying25 hi iz0 iz1 iz2 rfl (by decide) (.slice A0 (2 + 3 * k) cap0) (2 + 3 * k) ((dwTo seq st n (es.take k)).flatMap w3c) rfl (own_below hown (by repeat' (first | with_reducible exact Below.refl _ _ | with_reducible assumption | with_reducible refine Below.alloc ?_ ?_ _ | with_reducible refine Below.setCell ?_ ?_ _ | with_reducible refine Below.drew ?_ | with_reducible refine below_drewN ?_ _ | with_reducible refine Below.trans ?_ (Below.mono (by with_reducible assumption) ?_) | omega | (simp <;> omega)))) (some ⟨w5.heap.size, 0, none⟩) 3 3 [.int .i64 x.v, .int .u32 x.r, .int .u32 x.f, .int .i64 y.v, .int .u32 y.r, .int .u32 y.f, .int .i64 z.v, .int .u32 z.r, .int .u32 z.f] rfl _ (rd_alloc rfl rfl) (by simp [Value.oneCell']) (by unfold maxLen; omega) (by omega) (by simp; omega) w2.heap.size w2 (by repeat' (first | with_reducible exact Below.refl _ _ | with_reducible assumption | with_reducible refine Below.alloc ?_ ?_ _ | with_reducible refine Below.setCell ?_ ?_ _ | with_reducible refine Below.drew ?_ | with_reducible refine below_drewN ?_ _ | with_reducible refine Below.trans ?_ (Below.mono (by with_reducible assumption) ?_) | omega | (simp <;> omega))) (Nat.le_refl _) ?_; intro v' w6 hown6 hb6 hsz6))
      exact ⟨⟨k + 1, by go_num, by omega, by rw [Hst.out, show 2 + 3 * (k + 1) = 2 + 3 * k + 3 by omega]; exact hown6, (by repeat' (first | with_reducible exact Below.refl _ _ | with_reducible assumption | with_reducible refine Below.alloc ?_ ?_ _ | with_reducible refine Below.setCell ?_ ?_ _ | with_reducible refine Below.drew ?_ | with_reducible refine below_drewN ?_ _ | with_reducible refine Below.trans ?_ (Below.mono (by with_reducible assumption) ?_) | omega | (simp <;> omega)))⟩, by simp [intOf]; omega⟩
    · obtain rfl : n = k := by omega
      rw [List.take_of_length_le (by rw [Hl.out]; exact Nat.le_refl _), ← HR.out] at hown
      obtain ⟨A', cap', e1', hr⟩ := own_rd' hown
      injection e1' with e1' e2' e3'
      subst e1' e3'
      have Hrd := hide hr
      clear hr hown
      go_wp2_with fail
      go_ret2
      exact ⟨A0, cap0, rfl, Hrd.out, fun b off e => by have := hbl0 b off e; omega, hBr⟩
end Go.Proofs.YtbomhhkknopdpaaGreatDoor
