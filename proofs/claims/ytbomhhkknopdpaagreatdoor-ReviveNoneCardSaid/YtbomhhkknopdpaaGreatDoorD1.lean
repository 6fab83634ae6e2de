/- Package desc: the order of entries; slices.IsSortedFunc. -/
import Derived.Test.YtbomhhkknopdpaaGreatDoorE1
import Derived.Test.YtbomhhkknopdpaaGreatDoorY3
namespace Go.Proofs.YtbomhhkknopdpaaGreatDoor
set_option linter.unusedSimpArgs false
set_option linter.unusedVariables false
open Go.RowKit

theorem cmp_any (x y : En) (w : World) (hx : 0 ≤ x.a ∧ x.a < 4096) (hy : 0 ≤ y.a ∧ y.a < 4096) : Calls Tryz.prog 76 #[(.agg #[.int .i64 (x).a, .int .i64 (x).o.v, .int .u32 (x).o.r, .int .u32 (x).o.f, .int .i64 (x).n, .bool (x).w]), (.agg #[.int .i64 (y).a, .int .i64 (y).o.v, .int .u32 (y).o.r, .int .u32 (y).o.f, .int .i64 (y).n, .bool (y).w])] w fun e' w' => e' = .returned (.int .i64 (x.a - y.a)) ∧ Below w.heap.size w w' := by
  go_enter Tryz.func76, Tryz.ntmps76
  go_wp2_with fail
  go_ret
  exact ⟨rfl, (by repeat' (first | with_reducible exact Below.refl _ _ | with_reducible assumption | with_reducible refine Below.alloc ?_ ?_ _ | with_reducible refine Below.setCell ?_ ?_ _ | with_reducible refine Below.drew ?_ | with_reducible refine below_drewN ?_ _ | with_reducible refine Below.trans ?_ (Below.mono (by with_reducible assumption) ?_) | omega | (simp <;> omega)))⟩
def atA (es : List En) (j : Nat) : Int := (es.map En.a).getD j 0
/-- The entries ascend. -/
def sortedE (es : List En) : Bool := (List.range (es.length - 1)).all fun j => decide (atA es j ≤ atA es (j + 1))
theorem atA_of {es : List En} {j : Nat} {e : En} (h : es[j]? = some e) : atA es j = e.a := by
  unfold atA
  rw [List.getD_eq_getElem?_getD, List.getElem?_map, h]
  rfl
set_option maxHeartbeats 2000000 in
theorem sorted_any (A : Option Addr) (n cap : Nat) (es : List En) (w : World) (hr : Rd w w.heap.size 6 A n (es.flatMap ec)) (hl : es.length = n) (hn : n ≤ 1000) (hb : ∀ e ∈ es, 0 ≤ e.a ∧ e.a < 4096) :
    Calls Tryz.prog 75 #[.slice A n cap, .func (.func 76) #[] #[]] w fun e' w' => e' = .returned (.bool (sortedE es)) ∧ Below w.heap.size w w' := by
  have Hr := hide hr
  have Hl := hide hl
  have Hb := hide hb
  obtain ⟨R, hR⟩ : ∃ R, R = sortedE es := ⟨_, rfl⟩
  have HR := hide hR
  rw [← hR]
  clear hr hl hb hR
  go_enter Tryz.func75, Tryz.ntmps75
  go_wp2_with fail
  go_loopw [5] (fun i wr => ∃ k : Int, i = .int .i64 k ∧ -1 ≤ k ∧ k < n ∧ (∀ j : Nat, k ≤ j → j < n - 1 → atA es j ≤ atA es (j + 1)) ∧ Below w.heap.size w wr) (fun i _ => (intOf i + 1).toNat)
  case atStart => exact ⟨(n : Int) - 1, by go_num, by omega, by omega, fun j h1 h2 => by omega, (by repeat' (first | with_reducible exact Below.refl _ _ | with_reducible assumption | with_reducible refine Below.alloc ?_ ?_ _ | with_reducible refine Below.setCell ?_ ?_ _ | with_reducible refine Below.drew ?_ | with_reducible refine below_drewN ?_ _ | with_reducible refine Below.trans ?_ (Below.mono (by with_reducible assumption) ?_) | omega | (simp <;> omega)))⟩
  case round =>
    obtain ⟨k', rfl, hk0, hk, hno, hB⟩ := hrel
    have hsz := hB.size
    by_cases hlt : 0 < k'
    · obtain ⟨k, rfl⟩ : ∃ k : Nat, k' = (k : Int) + 1 := ⟨(k' - 1).toNat, by omega⟩
      have hz1 : es[k]? = some (es[k]'(by rw [Hl.out]; omega)) := List.getElem?_eq_getElem _
      have hz2 : es[k + 1]? = some (es[k + 1]'(by rw [Hl.out]; omega)) := List.getElem?_eq_getElem _
      obtain ⟨b, off, rfl, hbb, hcA⟩ := Hr.out.elem (fun _ => rfl) (show k < n by omega) hz1
      obtain ⟨b2, off2, e2, hbb2, hcB⟩ := Hr.out.elem (fun _ => rfl) (show k + 1 < n by omega) hz2
      injection e2 with e2
      injection e2 with e2 e3
      subst e2 e3
      obtain ⟨x, hx⟩ : ∃ e, e = es[k]'(by rw [Hl.out]; omega) := ⟨_, rfl⟩
      obtain ⟨y, hy⟩ : ∃ e, e = es[k + 1]'(by rw [Hl.out]; omega) := ⟨_, rfl⟩
      rw [← hx] at hcA hz1
      rw [← hy] at hcB hz2
      have bx : ∀ j u, (ec x)[j]? = some u → wr.cell? ⟨b, off + k * 6 + j, none⟩ = some u := fun j u hu => (hB.cell (p := ⟨b, off + k * 6 + j, none⟩) hbb).trans (hcA j u hu)
      have bY : ∀ j u, (ec y)[j]? = some u → wr.cell? ⟨b, off + (k + 1) * 6 + j, none⟩ = some u := fun j u hu => (hB.cell (p := ⟨b, off + (k + 1) * 6 + j, none⟩) hbb).trans (hcB j u hu)
      have hbr : b < wr.heap.size := by omega
      have hki : (0 : Int) ≤ (k : Int) := by omega
      have hki1 : (0 : Int) ≤ (k : Int) + 1 := by omega
      have hkj : (k : Int) + 1 < (n : Int) := by omega
      have hkj2 : (k : Int) < (n : Int) := by omega
      have hwk : IntKind.i64.wrap ((k : Int) + 1 - 1) = (k : Int) := by rw [IntWalk.i64_in _ (by omega)]; omega
      have hwk2 : IntKind.i64.wrap (k : Int) = (k : Int) := IntWalk.i64_in _ (by omega)
      have hxb := Hb.out x (List.mem_of_getElem? hz1)
      have hyb := Hb.out y (List.mem_of_getElem? hz2)
      have ax := atA_of hz1
      have ay := atA_of hz2
      have Hz1 := hide hz1
      have Hz2 := hide hz2
      clear hcA hcB hx hy hz1 hz2
      have p_0 : wr.cell? ⟨b, off + k * 6, none⟩ = some (.int .i64 (x).a) := bx 0 _ rfl
      have p_1 : wr.cell? ⟨b, off + k * 6 + 1, none⟩ = some (.int .i64 (x).o.v) := bx 1 _ rfl
      have p_2 : wr.cell? ⟨b, off + k * 6 + 2, none⟩ = some (.int .u32 (x).o.r) := bx 2 _ rfl
      have p_3 : wr.cell? ⟨b, off + k * 6 + 3, none⟩ = some (.int .u32 (x).o.f) := bx 3 _ rfl
      have p_4 : wr.cell? ⟨b, off + k * 6 + 4, none⟩ = some (.int .i64 (x).n) := bx 4 _ rfl
      have p_5 : wr.cell? ⟨b, off + k * 6 + 5, none⟩ = some (.bool (x).w) := bx 5 _ rfl
      have q_0 : wr.cell? ⟨b, off + (k + 1) * 6, none⟩ = some (.int .i64 (y).a) := bY 0 _ rfl
      have q_1 : wr.cell? ⟨b, off + (k + 1) * 6 + 1, none⟩ = some (.int .i64 (y).o.v) := bY 1 _ rfl
      have q_2 : wr.cell? ⟨b, off + (k + 1) * 6 + 2, none⟩ = some (.int .u32 (y).o.r) := bY 2 _ rfl
      have q_3 : wr.cell? ⟨b, off + (k + 1) * 6 + 3, none⟩ = some (.int .u32 (y).o.f) := bY 3 _ rfl
      have q_4 : wr.cell? ⟨b, off + (k + 1) * 6 + 4, none⟩ = some (.int .i64 (y).n) := bY 4 _ rfl
      have q_5 : wr.cell? ⟨b, off + (k + 1) * 6 + 5, none⟩ = some (.bool (y).w) := bY 5 _ rfl
      clear bx bY
      by_cases hq : y.a - x.a < 0
      · have hf : Hid (sortedE es = false) := hide (by
          unfold sortedE
          rw [List.all_eq_false]
          exact ⟨k, List.mem_range.2 (by rw [Hl.out]; omega), by rw [ax, ay]; simp; omega⟩)
        go_wp2_with fail
        go_region_held3 (fun w' => w'.cell? ⟨b, off + k * 6, none⟩ = some (.int .i64 x.a) ∧ w'.cell? ⟨b, off + k * 6 + 1, none⟩ = some (.int .i64 x.o.v) ∧ w'.cell? ⟨b, off + k * 6 + 2, none⟩ = some (.int .u32 x.o.r) ∧ w'.cell? ⟨b, off + k * 6 + 3, none⟩ = some (.int .u32 x.o.f) ∧ w'.cell? ⟨b, off + k * 6 + 4, none⟩ = some (.int .i64 x.n) ∧ w'.cell? ⟨b, off + k * 6 + 5, none⟩ = some (.bool x.w) ∧ w'.cell? ⟨b, off + (k + 1) * 6, none⟩ = some (.int .i64 y.a) ∧ w'.cell? ⟨b, off + (k + 1) * 6 + 1, none⟩ = some (.int .i64 y.o.v) ∧ w'.cell? ⟨b, off + (k + 1) * 6 + 2, none⟩ = some (.int .u32 y.o.r) ∧ w'.cell? ⟨b, off + (k + 1) * 6 + 3, none⟩ = some (.int .u32 y.o.f) ∧ w'.cell? ⟨b, off + (k + 1) * 6 + 4, none⟩ = some (.int .i64 y.n) ∧ w'.cell? ⟨b, off + (k + 1) * 6 + 5, none⟩ = some (.bool y.w))
          (first | exact ⟨p_0, p_1, p_2, p_3, p_4, p_5, q_0, q_1, q_2, q_3, q_4, q_5⟩ | exact ⟨(hcc1 _ _ hbr).trans p_0, (hcc1 _ _ hbr).trans p_1, (hcc1 _ _ hbr).trans p_2, (hcc1 _ _ hbr).trans p_3, (hcc1 _ _ hbr).trans p_4, (hcc1 _ _ hbr).trans p_5, (hcc1 _ _ hbr).trans q_0, (hcc1 _ _ hbr).trans q_1, (hcc1 _ _ hbr).trans q_2, (hcc1 _ _ hbr).trans q_3, (hcc1 _ _ hbr).trans q_4, (hcc1 _ _ hbr).trans q_5⟩)
          (first | (go_at_call 76; refine (cmp_any y x _ hyb hxb).mono ?_; rintro e w1 ⟨rfl, hb1'⟩; have hb1 : Below wr.heap.size wr w1 := (by first | with_reducible exact noDrew hb1' | exact hb1'); clear hb1'; obtain ⟨hcc1, hff1⟩ := bcell hb1; have hs1 := hb1.size; (try simp at hs1)))
        all_goals go_wp2_with fail
        all_goals go_ret
        all_goals exact ⟨by rw [HR.out, hf.out]; rfl, (by repeat' (first | with_reducible exact Below.refl _ _ | with_reducible assumption | with_reducible refine Below.alloc ?_ ?_ _ | with_reducible refine Below.setCell ?_ ?_ _ | with_reducible refine Below.drew ?_ | with_reducible refine below_drewN ?_ _ | with_reducible refine Below.trans ?_ (Below.mono (by with_reducible assumption) ?_) | omega | (simp <;> omega)))⟩
      · go_wp2_with fail
        go_region_held3 (fun w' => w'.cell? ⟨b, off + k * 6, none⟩ = some (.int .i64 x.a) ∧ w'.cell? ⟨b, off + k * 6 + 1, none⟩ = some (.int .i64 x.o.v) ∧ w'.cell? ⟨b, off + k * 6 + 2, none⟩ = some (.int .u32 x.o.r) ∧ w'.cell? ⟨b, off + k * 6 + 3, none⟩ = some (.int .u32 x.o.f) ∧ w'.cell? ⟨b, off + k * 6 + 4, none⟩ = some (.int .i64 x.n) ∧ w'.cell? ⟨b, off + k * 6 + 5, none⟩ = some (.bool x.w) ∧ w'.cell? ⟨b, off + (k + 1) * 6, none⟩ = some (.int .i64 y.a) ∧ w'.cell? ⟨b, off + (k + 1) * 6 + 1, none⟩ = some (.int .i64 y.o.v) ∧ w'.cell? ⟨b, off + (k + 1) * 6 + 2, none⟩ = some (.int .u32 y.o.r) ∧ w'.cell? ⟨b, off + (k + 1) * 6 + 3, none⟩ = some (.int .u32 y.o.f) ∧ w'.cell? ⟨b, off + (k + 1) * 6 + 4, none⟩ = some (.int .i64 y.n) ∧ w'.cell? ⟨b, off + (k + 1) * 6 + 5, none⟩ = some (.bool y.w))
          (first | exact ⟨p_0, p_1, p_2, p_3, p_4, p_5, q_0, q_1, q_2, q_3, q_4, q_5⟩ | exact ⟨(hcc1 _ _ hbr).trans p_0, (hcc1 _ _ hbr).trans p_1, (hcc1 _ _ hbr).trans p_2, (hcc1 _ _ hbr).trans p_3, (hcc1 _ _ hbr).trans p_4, (hcc1 _ _ hbr).trans p_5, (hcc1 _ _ hbr).trans q_0, (hcc1 _ _ hbr).trans q_1, (hcc1 _ _ hbr).trans q_2, (hcc1 _ _ hbr).trans q_3, (hcc1 _ _ hbr).trans q_4, (hcc1 _ _ hbr).trans q_5⟩)
          (first | (go_at_call 76; refine (cmp_any y x _ hyb hxb).mono ?_; rintro e w1 ⟨rfl, hb1'⟩; have hb1 : Below wr.heap.size wr w1 := (by first | with_reducible exact noDrew hb1' | exact hb1'); clear hb1'; obtain ⟨hcc1, hff1⟩ := bcell hb1; have hs1 := hb1.size; (try simp at hs1)))
        all_goals go_wp2_with fail
        all_goals exact ⟨⟨k, by go_num, by omega, by omega, fun j h1 h2 => by
          rcases Nat.lt_or_ge k j with h3 | h3
          · exact hno j (by omega) h2
          · obtain rfl : j = k := by omega
            rw [ax, ay]; omega, (by repeat' (first | with_reducible exact Below.refl _ _ | with_reducible assumption | with_reducible refine Below.alloc ?_ ?_ _ | with_reducible refine Below.setCell ?_ ?_ _ | with_reducible refine Below.drew ?_ | with_reducible refine below_drewN ?_ _ | with_reducible refine Below.trans ?_ (Below.mono (by with_reducible assumption) ?_) | omega | (simp <;> omega)))⟩, by simp [intOf]; omega⟩
    · go_wp2_with fail
      go_ret
      refine ⟨?_, (by repeat' (first | with_reducible exact Below.refl _ _ | with_reducible assumption | with_reducible refine Below.alloc ?_ ?_ _ | with_reducible refine Below.setCell ?_ ?_ _ | with_reducible refine Below.drew ?_ | with_reducible refine below_drewN ?_ _ | with_reducible refine Below.trans ?_ (Below.mono (by with_reducible assumption) ?_) | omega | (simp <;> omega)))⟩
      rw [HR.out]
      have hf : sortedE es = true := by
        unfold sortedE
        rw [List.all_eq_true]
        intro j hj
        rw [List.mem_range, Hl.out] at hj
        have := hno j (by omega) hj
        simpa using this
      rw [hf]
      rfl
end Go.Proofs.YtbomhhkknopdpaaGreatDoor
