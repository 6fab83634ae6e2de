/- Maps of counts with integer keys, as package advise keeps them: Clone and more. -/
import Derived.Test.YtfldjbojonbmpaaProg
import Derived.Test.YtfldjbojonbmpaaLib
import Derived.WalkKit
import Derived.WalkSpells
import Derived.WalkLawsBesides
import Derived.Maps.Own
import Derived.Maps.OwnOps
import Derived.Maps.OwnSet
import Derived.Maps.Views
import Derived.Shelf.SlMaps.Clone
namespace Go.Proofs.Ytfldjbojonbmpaa
open Go.RowKit Go.Maps

theorem law_int : Keyed Try.prog 3 := int_keyed Try.underlying3
theorem law_loc : Keyed Try.prog 32 := int_keyed Try.underlying32
theorem zero_int (w : World) : (zeroValue 3).run Try.prog w = .ok (.int .i64 0) w := by kernel_rfl

/-- The map value v (keys of type k) holds the counts f, at most n of them. -/
def MapF (w : World) (k : TypeId) (v : Option Nat) (n : Nat) (f : Int → Int) : Prop :=
  (v = none ∧ ∀ z, f z = 0) ∨
  ∃ (b : Nat) (D : DataW Unit), v = some b ∧ w.ownsMap Try.prog k (plainElem Try.prog 3) b n D ∧ IsMap D ∧ ∀ z, (Lit.int .i64 z).wf = true → D.atKey (.int .i64 z) (.lit (.int .i64 0)) = .lit (.int .i64 (f z))

section
variable {w w' : World} {k : TypeId} {v : Option Nat} {n n' : Nat} {f : Int → Int}
theorem MapF.nil (w : World) (k : TypeId) (n : Nat) : MapF w k none n (fun _ => 0) := .inl ⟨rfl, fun _ => rfl⟩
theorem MapF.below (h : MapF w k v n f) (hb : Below w.heap.size w w') : MapF w' k v n f := by
  rcases h with h | ⟨b, D, rfl, hown, hi, hf⟩
  · exact .inl h
  · exact .inr ⟨b, D, rfl, hown.kept (grown_of_below hb none) (by simp), hi, hf⟩
theorem MapF.mono (h : MapF w k v n f) (hn : n ≤ n') : MapF w k v n' f := by
  rcases h with h | ⟨b, D, rfl, hown, hi, hf⟩
  · exact .inl h
  · exact .inr ⟨b, D, rfl, hown.mono hn, hi, hf⟩
end

theorem block_of_cell {w : World} {a : Addr} {u : Value} (h : w.cell? a = some u) : ∃ c t fr, w.heap[a.block]? = some (.cells c t fr) := by
  unfold World.cell? at h
  split at h
  · rename_i c t fr hb
    exact ⟨c, t, fr, hb⟩
  · cases h
theorem MapF.setCell {w : World} {k : TypeId} {v : Option Nat} {n : Nat} {f : Int → Int} {a : Addr} {u : Value} (h : MapF w k v n f) (hc : w.cell? a = some u) (x : Value) : MapF (w.setCell a x) k v n f := by
  rcases h with h | ⟨b, D, rfl, hown, hi, hf⟩
  · exact .inl h
  · refine .inr ⟨b, D, rfl, hown.setCell ?_ x, hi, hf⟩
    rintro rfl
    obtain ⟨c, t, fr, hb⟩ := block_of_cell hc
    obtain ⟨es, clock, hb', _⟩ := hown
    rw [hb] at hb'
    cases hb'

theorem MapF.set3 {w : World} {k : TypeId} {v : Option Nat} {n : Nat} {f : Int → Int} {B : Nat} {x0 x1 x2 : Value} (h : MapF w k v n f) (e0 : w.cell? ⟨B, 0, none⟩ = some x0) (e1 : w.cell? ⟨B, 1, none⟩ = some x1) (e2 : w.cell? ⟨B, 2, none⟩ = some x2) (y0 y1 y2 : Value) :
    MapF (((w.setCell ⟨B, 0, none⟩ y0).setCell ⟨B, 1, none⟩ y1).setCell ⟨B, 2, none⟩ y2) k v n f :=
  ((h.setCell e0 _).setCell (a := ⟨B, 1, none⟩) (u := x1) (by simp [go_sem, e1]) _).setCell (a := ⟨B, 2, none⟩) (u := x2) (by simp [go_sem, e2]) _

theorem extern_clone (w : World) (t : TypeId) (b : Nat) (es : Array MapEntry) (clock : Nat) (hb : w.heap[b]? = some (.map es clock)) :
    Sem.run Try.prog (callFunc 28 #[.iface t (.map (some b))]) w = .ok (.value (.iface t (.map (some w.heap.size)))) (w.alloc (.map es clock)) := by
  rw [run_callFunc_extern Try.func28 (by kernel_rfl) (by kernel_rfl) (by kernel_rfl) (e := Extern.MapsClone.clone) (by kernel_rfl), run_maps_clone_sl w t hb]
  rfl

theorem typeAssert_map (w : World) (t xT k e : TypeId) (v : Value) (h : Try.prog.underlying t = some (.map k e)) : (Instr.typeAssert (.iface t v) xT t false).run Try.prog w = .ok v w := run_typeAssert_map_sl w t xT k e v h

set_option maxHeartbeats 400000 in
theorem clone_int (v : Option Nat) (n : Nat) (f : Int → Int) (w : World) (h : MapF w 3 v n f) :
    Calls Try.prog 25 #[.map v] w fun e w' => ∃ v', e = .returned (.map v') ∧ (v' = none ∨ v' = some w.heap.size) ∧ MapF w' 3 v' n f ∧ Below w.heap.size w w' := by
  have hq := fun (w : World) (r : Option Nat) => run_eql_map_nil (P := Try.prog) w _ _ _ r Try.underlying50
  rcases h with ⟨rfl, hf⟩ | ⟨b, D, rfl, hown, hi, hf⟩
  · go_enter Try.func25, Try.ntmps25
    go_wp2
    go_ret
    exact ⟨_, rfl, .inl rfl, .inl ⟨rfl, hf⟩, Below.refl _ _⟩
  · have hown0 := hown
    obtain ⟨es, clock, hb, F, hs, hD⟩ := hown
    have hta := fun (W : World) (v : Value) => typeAssert_map W 50 20 _ _ v Try.underlying50
    go_enter Try.func25, Try.ntmps25
    go_wp2
    rw [extern_clone w 50 b es clock hb]
    (try simp only [Result.andThen])
    rw [Oper.upon_value]
    go_wp2
    go_ret
    exact ⟨_, rfl, .inr rfl, .inr ⟨_, D, rfl, ⟨es, clock, (MapKept.heap_alloc w _).1, F, hs, hD⟩, hi, hf⟩, (Below.refl _ _).alloc (Nat.le_refl _) _⟩
set_option maxHeartbeats 400000 in
theorem clone_loc (v : Option Nat) (n : Nat) (f : Int → Int) (w : World) (h : MapF w 32 v n f) :
    Calls Try.prog 27 #[.map v] w fun e w' => ∃ v', e = .returned (.map v') ∧ (v' = none ∨ v' = some w.heap.size) ∧ MapF w' 32 v' n f ∧ Below w.heap.size w w' := by
  have hq := fun (w : World) (r : Option Nat) => run_eql_map_nil (P := Try.prog) w _ _ _ r Try.underlying51
  rcases h with ⟨rfl, hf⟩ | ⟨b, D, rfl, hown, hi, hf⟩
  · go_enter Try.func27, Try.ntmps27
    go_wp2
    go_ret
    exact ⟨_, rfl, .inl rfl, .inl ⟨rfl, hf⟩, Below.refl _ _⟩
  · have hown0 := hown
    obtain ⟨es, clock, hb, F, hs, hD⟩ := hown
    have hta := fun (W : World) (v : Value) => typeAssert_map W 51 20 _ _ v Try.underlying51
    go_enter Try.func27, Try.ntmps27
    go_wp2
    rw [extern_clone w 51 b es clock hb]
    (try simp only [Result.andThen])
    rw [Oper.upon_value]
    go_wp2
    go_ret
    exact ⟨_, rfl, .inr rfl, .inr ⟨_, D, rfl, ⟨es, clock, (MapKept.heap_alloc w _).1, F, hs, hD⟩, hi, hf⟩, (Below.refl _ _).alloc (Nat.le_refl _) _⟩

theorem info_inj {a b : Int} (h : (DataW.lit (.int .i64 a) : DataW Unit) = .lit (.int .i64 b)) : a = b := by
  injection h with h
  injection h

def upd (f : Int → Int) (z y : Int) : Int → Int := fun x => if x = z then y else f x
theorem upd_same (f : Int → Int) (z y : Int) : upd f z y z = y := if_pos rfl
theorem upd_other {f : Int → Int} {z y x : Int} (h : x ≠ z) : upd f z y x = f x := if_neg h

theorem reads_upd {D : DataW Unit} {f : Int → Int} (hi : IsMap D) (hf : ∀ z, (Lit.int .i64 z).wf = true → D.atKey (.int .i64 z) (.lit (.int .i64 0)) = .lit (.int .i64 (f z))) (z y : Int) (_wz : (Lit.int .i64 z).wf = true) :
    ∀ x, (Lit.int .i64 x).wf = true → (D.put (.int .i64 z) (.lit (.int .i64 y))).atKey (.int .i64 x) (.lit (.int .i64 0)) = .lit (.int .i64 (upd f z y x)) := by
  intro x wx
  by_cases hx : x = z
  · subst hx
    rw [atKey_put_same hi (by trivial), upd_same]
  · rw [atKey_put_other (by intro h; injection h with _ h; exact hx h), upd_other hx]
    exact hf x wx

set_option maxHeartbeats 400000 in
theorem more_int (v : Option Nat) (n : Nat) (f : Int → Int) (z : Int) (w : World) (h : MapF w 3 v n f) (hn : n ≤ 1000) (wz : (Lit.int .i64 z).wf = true) (h0 : 0 ≤ f z) (h1 : f z ≤ 1000) :
    Calls Try.prog 23 #[.map v, .int .i64 z] w fun e w' => ∃ v', e = .returned (.map v') ∧ MapF w' 3 v' (n + 1) (upd f z (f z + 1)) ∧ Below w.heap.size w w' := by
  have hq := fun (w : World) (r : Option Nat) => run_eql_map_nil (P := Try.prog) w _ _ _ r Try.underlying50
  have hmm := @run_makeMap Try.prog
  go_enter Try.func23, Try.ntmps23
  go_wp2_with fail
  refine (clone_int v n f w h).mono ?_
  rintro e w1 ⟨v', rfl, hv, hm, hb1⟩
  rcases hm with ⟨rfl, hf⟩ | ⟨b, D, rfl, hown, hi, hf⟩
  · have hzz : f z = 0 := hf z
    have Hf := hide hf
    clear hf
    have hownM : (w1.alloc (.map #[] 0)).ownsMap Try.prog 3 (plainElem (H := Unit) Try.prog 3) w1.heap.size n (.map []) := (World.ownsMap_made _ _ _ _).mono (Nat.zero_le _)
    have hl : (DataW.map [] : DataW Unit).atKey (.int .i64 z) (.lit (.int .i64 0)) = .lit (.int .i64 0) := rfl
    have HL := hide hl
    clear hl
    have HZ := hide hzz
    clear hzz
    go_wp2_with (first
        | (at_lookup; refine wpList_lookup_own_int _ rfl _ _ 50 rfl 3 3 .i64 law_int Try.underlying50 Try.underlying3 (zero_int _) w1.heap.size n (.map []) rfl hownM _ _ rfl (keyOf_int_mk Try.underlying3 wz) ?_; intro c hat hwc; obtain rfl : c = 0 := info_inj (hat.symm.trans HL.out))
        | (at_mapUpdate; refine wpList_mapUpdate_own _ rfl _ _ _ 50 rfl 3 3 law_int Try.underlying50 _ w1.heap.size n (.map []) rfl hownM (by unfold maxLen; omega) _ _ _ rfl rfl (keyOf_int_mk Try.underlying3 wz) _ [] (plainElem_int Try.underlying3 (WalkArith.wf_i64 (by omega))) ?_; intro w2 hown2 hg2))
    go_ret
    refine ⟨_, rfl, .inr ⟨_, _, rfl, hown2, isMap_empty.put _ _, ?_⟩, ((hb1.alloc hb1.size _).grown hg2 (by simp; have := hb1.size; omega) (fun k hk => by cases hk; exact hb1.size))⟩
    have hr := reads_upd (f := f) isMap_empty (fun x wx => by rw [Hf.out x]; rfl) z 1 wz
    rw [HZ.out]
    exact hr
  · have hbb : w.heap.size ≤ b := by
      rcases hv with hv | hv
      · cases hv
      · cases hv
        exact Nat.le_refl _
    have hl := hf z wz
    have HL := hide hl
    clear hl
    have Hf := hide hf
    clear hf hv
    go_wp2_with (first
        | (at_lookup; refine wpList_lookup_own_int _ rfl _ _ 50 rfl 3 3 .i64 law_int Try.underlying50 Try.underlying3 (zero_int _) b n D rfl hown _ _ rfl (keyOf_int_mk Try.underlying3 wz) ?_; intro c hat hwc; obtain rfl : c = f z := info_inj (hat.symm.trans HL.out))
        | (at_mapUpdate; refine wpList_mapUpdate_own _ rfl _ _ _ 50 rfl 3 3 law_int Try.underlying50 _ b n D rfl hown (by unfold maxLen; omega) _ _ _ rfl rfl (keyOf_int_mk Try.underlying3 wz) _ [] (plainElem_int Try.underlying3 (WalkArith.wf_i64 (by omega))) ?_; intro w2 hown2 hg2))
    go_ret
    exact ⟨_, rfl, .inr ⟨_, _, rfl, hown2, hi.put _ _, reads_upd hi Hf.out z _ wz⟩, hb1.grown hg2 hb1.size (fun k hk => by cases hk; exact hbb)⟩
set_option maxHeartbeats 400000 in
theorem more_loc (v : Option Nat) (n : Nat) (f : Int → Int) (z : Int) (w : World) (h : MapF w 32 v n f) (hn : n ≤ 1000) (wz : (Lit.int .i64 z).wf = true) (h0 : 0 ≤ f z) (h1 : f z ≤ 1000) :
    Calls Try.prog 24 #[.map v, .int .i64 z] w fun e w' => ∃ v', e = .returned (.map v') ∧ MapF w' 32 v' (n + 1) (upd f z (f z + 1)) ∧ Below w.heap.size w w' := by
  have hq := fun (w : World) (r : Option Nat) => run_eql_map_nil (P := Try.prog) w _ _ _ r Try.underlying51
  have hmm := @run_makeMap Try.prog
  go_enter Try.func24, Try.ntmps24
  go_wp2_with fail
  refine (clone_loc v n f w h).mono ?_
  rintro e w1 ⟨v', rfl, hv, hm, hb1⟩
  rcases hm with ⟨rfl, hf⟩ | ⟨b, D, rfl, hown, hi, hf⟩
  · have hzz : f z = 0 := hf z
    have Hf := hide hf
    clear hf
    have hownM : (w1.alloc (.map #[] 0)).ownsMap Try.prog 32 (plainElem (H := Unit) Try.prog 3) w1.heap.size n (.map []) := (World.ownsMap_made _ _ _ _).mono (Nat.zero_le _)
    have hl : (DataW.map [] : DataW Unit).atKey (.int .i64 z) (.lit (.int .i64 0)) = .lit (.int .i64 0) := rfl
    have HL := hide hl
    clear hl
    have HZ := hide hzz
    clear hzz
    go_wp2_with (first
        | (at_lookup; refine wpList_lookup_own_int _ rfl _ _ 51 rfl 32 3 .i64 law_loc Try.underlying51 Try.underlying3 (zero_int _) w1.heap.size n (.map []) rfl hownM _ _ rfl (keyOf_int_mk Try.underlying32 wz) ?_; intro c hat hwc; obtain rfl : c = 0 := info_inj (hat.symm.trans HL.out))
        | (at_mapUpdate; refine wpList_mapUpdate_own _ rfl _ _ _ 51 rfl 32 3 law_loc Try.underlying51 _ w1.heap.size n (.map []) rfl hownM (by unfold maxLen; omega) _ _ _ rfl rfl (keyOf_int_mk Try.underlying32 wz) _ [] (plainElem_int Try.underlying3 (WalkArith.wf_i64 (by omega))) ?_; intro w2 hown2 hg2))
    go_ret
    refine ⟨_, rfl, .inr ⟨_, _, rfl, hown2, isMap_empty.put _ _, ?_⟩, ((hb1.alloc hb1.size _).grown hg2 (by simp; have := hb1.size; omega) (fun k hk => by cases hk; exact hb1.size))⟩
    have hr := reads_upd (f := f) isMap_empty (fun x wx => by rw [Hf.out x]; rfl) z 1 wz
    rw [HZ.out]
    exact hr
  · have hbb : w.heap.size ≤ b := by
      rcases hv with hv | hv
      · cases hv
      · cases hv
        exact Nat.le_refl _
    have hl := hf z wz
    have HL := hide hl
    clear hl
    have Hf := hide hf
    clear hf hv
    go_wp2_with (first
        | (at_lookup; refine wpList_lookup_own_int _ rfl _ _ 51 rfl 32 3 .i64 law_loc Try.underlying51 Try.underlying3 (zero_int _) b n D rfl hown _ _ rfl (keyOf_int_mk Try.underlying32 wz) ?_; intro c hat hwc; obtain rfl : c = f z := info_inj (hat.symm.trans HL.out))
        | (at_mapUpdate; refine wpList_mapUpdate_own _ rfl _ _ _ 51 rfl 32 3 law_loc Try.underlying51 _ b n D rfl hown (by unfold maxLen; omega) _ _ _ rfl rfl (keyOf_int_mk Try.underlying32 wz) _ [] (plainElem_int Try.underlying3 (WalkArith.wf_i64 (by omega))) ?_; intro w2 hown2 hg2))
    go_ret
    exact ⟨_, rfl, .inr ⟨_, _, rfl, hown2, hi.put _ _, reads_upd hi Hf.out z _ wz⟩, hb1.grown hg2 hb1.size (fun k hk => by cases hk; exact hbb)⟩

theorem MapF.alloc {w : World} {k : TypeId} {v : Option Nat} {n : Nat} {f : Int → Int} (h : MapF w k v n f) (o : Obj) : MapF (w.alloc o) k v n f := h.below ((Below.refl _ _).alloc (Nat.le_refl _) o)
theorem look_any {w : World} {k t : TypeId} {v : Option Nat} {n : Nat} {f : Int → Int} (h : MapF w k v n f) (hk : Try.prog.underlying k = some (.int .i64)) (ht : Try.prog.underlying t = some (.map k 3)) {z : Int} (wz : (Lit.int .i64 z).wf = true) :
    (Instr.lookup t (.map v) (.int .i64 z) false).run Try.prog w = .ok (.int .i64 (f z)) w := by
  rcases h with ⟨rfl, hf⟩ | ⟨b, D, rfl, hown, hi, hf⟩
  · rw [hf z]
    exact Maps.look_nil false (int_keyed hk) ht (zero_int w) (keyOf_int_mk hk wz)
  · obtain ⟨c, hrun, hat, _⟩ := hown.lookup_int (int_keyed hk) ht Try.underlying3 (zero_int w) (keyOf_int_mk hk wz)
    rw [hrun, info_inj (hat.symm.trans (hf z wz))]

theorem reads_del {D : DataW Unit} {f : Int → Int} (hf : ∀ z, (Lit.int .i64 z).wf = true → D.atKey (.int .i64 z) (.lit (.int .i64 0)) = .lit (.int .i64 (f z))) (z : Int) :
    ∀ x, (Lit.int .i64 x).wf = true → (D.del (.int .i64 z)).atKey (.int .i64 x) (.lit (.int .i64 0)) = .lit (.int .i64 (upd f z 0 x)) := by
  intro x wx
  by_cases hx : x = z
  · subst hx
    rw [atKey_del_same, upd_same]
  · rw [atKey_del_other (by intro h; injection h with _ h; exact hx h), upd_other hx]
    exact hf x wx
end Go.Proofs.Ytfldjbojonbmpaa
