/- Package entry: wrong, Check; slices.IndexFunc, ContainsFunc over entries. -/
import Derived.Test.YtbomhhkknopdpaaGreatDoorZ1
namespace Go.Proofs.YtbomhhkknopdpaaGreatDoor
set_option linter.unusedSimpArgs false
set_option linter.unusedVariables false
open Go.RowKit

/-- An entry of a swap. -/
structure En where
  a : Int
  o : W3
  n : Int
  w : Bool
deriving DecidableEq
def ec (e : En) : List Value := [.int .i64 e.a, .int .i64 e.o.v, .int .u32 e.o.r, .int .u32 e.o.f, .int .i64 e.n, .bool e.w]
def En.ok (e : En) : Prop := e.o.ok
def wrongL (e : En) : Int := if e.a < 0 ∨ 4096 ≤ e.a then 3 else if e.o.f ≠ 0 then 13 else if e.w = true ∧ e.o.r = 4294967295 then 9 else if e.w = false ∧ e.n ≠ e.o.v then 4 else 0
set_option maxHeartbeats 1000000 in
theorem wrong_a1 (a v r f n : Int) (w : World) (b : Bool) (h : a < 0) : Calls Tryz.prog 90 #[.agg #[.int .i64 a, .int .i64 v, .int .u32 r, .int .u32 f, .int .i64 n, .bool b]] w fun e' w' => e' = .returned (.int .i64 3) ∧ Below w.heap.size w w' := by
  go_enter Tryz.func90, Tryz.ntmps90
  go_wp2_with fail
  go_ret
  exact ⟨rfl, (by repeat' (first | with_reducible exact Below.refl _ _ | with_reducible assumption | with_reducible refine Below.alloc ?_ ?_ _ | with_reducible refine Below.setCell ?_ ?_ _ | with_reducible refine Below.drew ?_ | with_reducible refine below_drewN ?_ _ | with_reducible refine Below.trans ?_ (Below.mono (by with_reducible assumption) ?_) | omega | (simp <;> omega)))⟩
set_option maxHeartbeats 1000000 in
theorem wrong_a2 (a v r f n : Int) (w : World) (b : Bool) (h : 4096 ≤ a) : Calls Tryz.prog 90 #[.agg #[.int .i64 a, .int .i64 v, .int .u32 r, .int .u32 f, .int .i64 n, .bool b]] w fun e' w' => e' = .returned (.int .i64 3) ∧ Below w.heap.size w w' := by
  have h0 : ¬ a < 0 := by omega
  go_enter Tryz.func90, Tryz.ntmps90
  go_wp2_with fail
  go_ret
  exact ⟨rfl, (by repeat' (first | with_reducible exact Below.refl _ _ | with_reducible assumption | with_reducible refine Below.alloc ?_ ?_ _ | with_reducible refine Below.setCell ?_ ?_ _ | with_reducible refine Below.drew ?_ | with_reducible refine below_drewN ?_ _ | with_reducible refine Below.trans ?_ (Below.mono (by with_reducible assumption) ?_) | omega | (simp <;> omega)))⟩
set_option maxHeartbeats 1000000 in
theorem wrong_f (a v r f n : Int) (w : World) (b : Bool) (h0 : 0 ≤ a) (h1 : a < 4096) (hx : (⟨v, r, f⟩ : W3).ok) (hf : f ≠ 0) : Calls Tryz.prog 90 #[.agg #[.int .i64 a, .int .i64 v, .int .u32 r, .int .u32 f, .int .i64 n, .bool b]] w fun e' w' => e' = .returned (.int .i64 13) ∧ Below w.heap.size w w' := by
  have Hp := hide (fun W => plain_any ⟨v, r, f⟩ W hx)
  have hd : decide ((⟨v, r, f⟩ : W3).f = 0) = false := by simp; exact hf
  clear hf
  go_enter Tryz.func90, Tryz.ntmps90
  go_wp2_with (first
    | (go_at_call 100; refine (Hp.out _).mono ?_; rintro e1 w1 ⟨rfl, hb1⟩; rw [hd]; obtain ⟨hcc1, hff1⟩ := bcell hb1; have hs1 := hb1.size; (try simp at hs1); have hz1 : w.heap.size < w1.heap.size := (by omega)))
  go_ret
  exact ⟨rfl, (by repeat' (first | with_reducible exact Below.refl _ _ | with_reducible assumption | with_reducible refine Below.alloc ?_ ?_ _ | with_reducible refine Below.setCell ?_ ?_ _ | with_reducible refine Below.drew ?_ | with_reducible refine below_drewN ?_ _ | with_reducible refine Below.trans ?_ (Below.mono (by with_reducible assumption) ?_) | omega | (simp <;> omega)))⟩
set_option maxHeartbeats 1000000 in
theorem wrong_r (a v n : Int) (w : World) (h0 : 0 ≤ a) (h1 : a < 4096) (hx : (⟨v, 4294967295, 0⟩ : W3).ok) : Calls Tryz.prog 90 #[.agg #[.int .i64 a, .int .i64 v, .int .u32 4294967295, .int .u32 0, .int .i64 n, .bool true]] w fun e' w' => e' = .returned (.int .i64 9) ∧ Below w.heap.size w w' := by
  have Hp := hide (fun W => plain_any ⟨v, 4294967295, 0⟩ W hx)
  have hd : decide ((⟨v, 4294967295, 0⟩ : W3).f = 0) = true := by simp
  go_enter Tryz.func90, Tryz.ntmps90
  go_wp2_with (first
    | (go_at_call 100; refine (Hp.out _).mono ?_; rintro e1 w1 ⟨rfl, hb1⟩; rw [hd]; obtain ⟨hcc1, hff1⟩ := bcell hb1; have hs1 := hb1.size; (try simp at hs1); have hz1 : w.heap.size < w1.heap.size := (by omega)))
  go_ret
  exact ⟨rfl, (by repeat' (first | with_reducible exact Below.refl _ _ | with_reducible assumption | with_reducible refine Below.alloc ?_ ?_ _ | with_reducible refine Below.setCell ?_ ?_ _ | with_reducible refine Below.drew ?_ | with_reducible refine below_drewN ?_ _ | with_reducible refine Below.trans ?_ (Below.mono (by with_reducible assumption) ?_) | omega | (simp <;> omega)))⟩
set_option maxHeartbeats 1000000 in
theorem wrong_t (a v r n : Int) (w : World) (h0 : 0 ≤ a) (h1 : a < 4096) (hx : (⟨v, r, 0⟩ : W3).ok) (hr : (r == 4294967295) = false) : Calls Tryz.prog 90 #[.agg #[.int .i64 a, .int .i64 v, .int .u32 r, .int .u32 0, .int .i64 n, .bool true]] w fun e' w' => e' = .returned (.int .i64 0) ∧ Below w.heap.size w w' := by
  have Hp := hide (fun W => plain_any ⟨v, r, 0⟩ W hx)
  have hd : decide ((⟨v, r, 0⟩ : W3).f = 0) = true := by simp
  go_enter Tryz.func90, Tryz.ntmps90
  go_wp2_with (first
    | (go_at_call 100; refine (Hp.out _).mono ?_; rintro e1 w1 ⟨rfl, hb1⟩; rw [hd]; obtain ⟨hcc1, hff1⟩ := bcell hb1; have hs1 := hb1.size; (try simp at hs1); have hz1 : w.heap.size < w1.heap.size := (by omega)))
  go_ret
  exact ⟨rfl, (by repeat' (first | with_reducible exact Below.refl _ _ | with_reducible assumption | with_reducible refine Below.alloc ?_ ?_ _ | with_reducible refine Below.setCell ?_ ?_ _ | with_reducible refine Below.drew ?_ | with_reducible refine below_drewN ?_ _ | with_reducible refine Below.trans ?_ (Below.mono (by with_reducible assumption) ?_) | omega | (simp <;> omega)))⟩
set_option maxHeartbeats 1000000 in
theorem wrong_e (a v r : Int) (w : World) (h0 : 0 ≤ a) (h1 : a < 4096) (hx : (⟨v, r, 0⟩ : W3).ok) : Calls Tryz.prog 90 #[.agg #[.int .i64 a, .int .i64 v, .int .u32 r, .int .u32 0, .int .i64 v, .bool false]] w fun e' w' => e' = .returned (.int .i64 0) ∧ Below w.heap.size w w' := by
  have Hp := hide (fun W => plain_any ⟨v, r, 0⟩ W hx)
  have hd : decide ((⟨v, r, 0⟩ : W3).f = 0) = true := by simp
  go_enter Tryz.func90, Tryz.ntmps90
  go_wp2_with (first
    | (go_at_call 100; refine (Hp.out _).mono ?_; rintro e1 w1 ⟨rfl, hb1⟩; rw [hd]; obtain ⟨hcc1, hff1⟩ := bcell hb1; have hs1 := hb1.size; (try simp at hs1); have hz1 : w.heap.size < w1.heap.size := (by omega)))
  go_ret
  exact ⟨rfl, (by repeat' (first | with_reducible exact Below.refl _ _ | with_reducible assumption | with_reducible refine Below.alloc ?_ ?_ _ | with_reducible refine Below.setCell ?_ ?_ _ | with_reducible refine Below.drew ?_ | with_reducible refine below_drewN ?_ _ | with_reducible refine Below.trans ?_ (Below.mono (by with_reducible assumption) ?_) | omega | (simp <;> omega)))⟩
set_option maxHeartbeats 1000000 in
theorem wrong_n (a v r n : Int) (w : World) (h0 : 0 ≤ a) (h1 : a < 4096) (hx : (⟨v, r, 0⟩ : W3).ok) (hn : (n != v) = true) : Calls Tryz.prog 90 #[.agg #[.int .i64 a, .int .i64 v, .int .u32 r, .int .u32 0, .int .i64 n, .bool false]] w fun e' w' => e' = .returned (.int .i64 4) ∧ Below w.heap.size w w' := by
  have Hp := hide (fun W => plain_any ⟨v, r, 0⟩ W hx)
  have hd : decide ((⟨v, r, 0⟩ : W3).f = 0) = true := by simp
  go_enter Tryz.func90, Tryz.ntmps90
  go_wp2_with (first
    | (go_at_call 100; refine (Hp.out _).mono ?_; rintro e1 w1 ⟨rfl, hb1⟩; rw [hd]; obtain ⟨hcc1, hff1⟩ := bcell hb1; have hs1 := hb1.size; (try simp at hs1); have hz1 : w.heap.size < w1.heap.size := (by omega)))
  go_ret
  exact ⟨rfl, (by repeat' (first | with_reducible exact Below.refl _ _ | with_reducible assumption | with_reducible refine Below.alloc ?_ ?_ _ | with_reducible refine Below.setCell ?_ ?_ _ | with_reducible refine Below.drew ?_ | with_reducible refine below_drewN ?_ _ | with_reducible refine Below.trans ?_ (Below.mono (by with_reducible assumption) ?_) | omega | (simp <;> omega)))⟩
theorem wrong_any (e : En) (w : World) (he : e.ok) : Calls Tryz.prog 90 #[(.agg #[.int .i64 (e).a, .int .i64 (e).o.v, .int .u32 (e).o.r, .int .u32 (e).o.f, .int .i64 (e).n, .bool (e).w])] w fun r w' => r = .returned (.int .i64 (wrongL e)) ∧ Below w.heap.size w w' := by
  obtain ⟨a, ⟨v, r, f⟩, n, b⟩ := e
  unfold wrongL
  simp only []
  by_cases h1 : a < 0
  · rw [if_pos (Or.inl h1)]
    exact wrong_a1 a v r f n w b h1
  by_cases h2 : 4096 ≤ a
  · rw [if_pos (Or.inr h2)]
    exact wrong_a2 a v r f n w b h2
  rw [if_neg (by omega)]
  by_cases h3 : f = 0
  · subst h3
    rw [if_neg (by simp)]
    cases b with
    | true =>
      by_cases h4 : r = 4294967295
      · subst h4
        rw [if_pos ⟨rfl, rfl⟩]
        exact wrong_r a v n w (by omega) (by omega) he
      · rw [if_neg (by simp [h4]), if_neg (by simp)]
        exact wrong_t a v r n w (by omega) (by omega) he (by simp [h4])
    | false =>
      rw [if_neg (by simp)]
      by_cases h4 : n = v
      · subst h4
        rw [if_neg (by simp)]
        exact wrong_e a n r w (by omega) (by omega) he
      · rw [if_pos ⟨rfl, h4⟩]
        exact wrong_n a v r n w (by omega) (by omega) he (by simp [h4])
  · rw [if_pos h3]
    exact wrong_f a v r f n w b (by omega) (by omega) he h3

/-- entry.Check's closure: the same location. -/
theorem same_any (e : En) (c : Nat) (a : Int) (w : World) (hc : w.cell? ⟨c, 0, none⟩ = some (.int .i64 a)) : Calls Tryz.prog 92 #[(.agg #[.int .i64 (e).a, .int .i64 (e).o.v, .int .u32 (e).o.r, .int .u32 (e).o.f, .int .i64 (e).n, .bool (e).w]), .pointer (some ⟨c, 0, none⟩)] w fun e' w' => e' = .returned (.bool (e.a == a)) ∧ Below w.heap.size w w' := by
  have hz := cell_lt hc
  simp only [] at hz
  go_enter Tryz.func92, Tryz.ntmps92
  go_wp2_with fail
  go_ret
  exact ⟨rfl, (by repeat' (first | with_reducible exact Below.refl _ _ | with_reducible assumption | with_reducible refine Below.alloc ?_ ?_ _ | with_reducible refine Below.setCell ?_ ?_ _ | with_reducible refine Below.drew ?_ | with_reducible refine below_drewN ?_ _ | with_reducible refine Below.trans ?_ (Below.mono (by with_reducible assumption) ?_) | omega | (simp <;> omega)))⟩
set_option maxHeartbeats 1000000 in
theorem index_any (A : Option Addr) (n cap : Nat) (es : List En) (c : Nat) (a : Int) (w : World) (hr : Rd w w.heap.size 6 A n (es.flatMap ec)) (hl : es.length = n) (hn : n ≤ 1000) (hc : w.cell? ⟨c, 0, none⟩ = some (.int .i64 a)) :
    Calls Tryz.prog 101 #[.slice A n cap, .func (.func 92) #[] #[.pointer (some ⟨c, 0, none⟩)]] w fun e' w' => ∃ r : Int, e' = .returned (.int .i64 r) ∧ (decide (0 ≤ r) = es.any (fun e => e.a == a)) ∧ Below w.heap.size w w' := by
  have hz := cell_lt hc
  simp only [] at hz
  have Hr := hide hr
  have Hl := hide hl
  clear hr hl
  go_enter Tryz.func101, Tryz.ntmps101
  go_wp2_with fail
  go_loopw [8] (fun i wr => ∃ k : Nat, i = .int .i64 k ∧ k ≤ n ∧ (es.take k).any (fun e => e.a == a) = false ∧ Below w.heap.size w wr) (fun i _ => n - (intOf i).toNat)
  case atStart => exact ⟨0, rfl, by omega, rfl, (by repeat' (first | with_reducible exact Below.refl _ _ | with_reducible assumption | with_reducible refine Below.alloc ?_ ?_ _ | with_reducible refine Below.setCell ?_ ?_ _ | with_reducible refine Below.drew ?_ | with_reducible refine below_drewN ?_ _ | with_reducible refine Below.trans ?_ (Below.mono (by with_reducible assumption) ?_) | omega | (simp <;> omega)))⟩
  case round =>
    obtain ⟨k, rfl, hk, hno, hB⟩ := hrel
    have hsz := hB.size
    by_cases hlt : k < n
    · have hz1 : es[k]? = some (es[k]'(by rw [Hl.out]; omega)) := List.getElem?_eq_getElem _
      obtain ⟨b, off, rfl, hbb, hcA⟩ := Hr.out.elem (fun _ => rfl) hlt hz1
      obtain ⟨e, he⟩ : ∃ e, e = es[k]'(by rw [Hl.out]; omega) := ⟨_, rfl⟩
      rw [← he] at hcA hz1
      have hbw : ∀ j u, (ec e)[j]? = some u → wr.cell? ⟨b, off + k * 6 + j, none⟩ = some u := fun j u hu => (hB.cell (p := ⟨b, off + k * 6 + j, none⟩) hbb).trans (hcA j u hu)
      have l0 : wr.cell? ⟨b, off + k * 6, none⟩ = some (.int .i64 e.a) := hbw 0 _ rfl
      have l1 : wr.cell? ⟨b, off + k * 6 + 1, none⟩ = some (.int .i64 e.o.v) := hbw 1 _ rfl
      have l2 : wr.cell? ⟨b, off + k * 6 + 2, none⟩ = some (.int .u32 e.o.r) := hbw 2 _ rfl
      have l3 : wr.cell? ⟨b, off + k * 6 + 3, none⟩ = some (.int .u32 e.o.f) := hbw 3 _ rfl
      have l4 : wr.cell? ⟨b, off + k * 6 + 4, none⟩ = some (.int .i64 e.n) := hbw 4 _ rfl
      have l5 : wr.cell? ⟨b, off + k * 6 + 5, none⟩ = some (.bool e.w) := hbw 5 _ rfl
      have hcr : wr.cell? ⟨c, 0, none⟩ = some (.int .i64 a) := (hB.cell (p := ⟨c, 0, none⟩) hz).trans hc
      have hki : (0 : Int) ≤ (k : Int) := by omega
      have hkj : (k : Int) < (n : Int) := by omega
      have hstep : (es.take (k + 1)).any (fun e => e.a == a) = (e.a == a) := by
        rw [List.take_add_one, List.any_append, hno, hz1]
        simp
      clear hcA hbw he
      cases hq : (e.a == a) with
      | true =>
        have Hst := hide hstep
        clear hstep
        go_wp2_with (first | (go_at_call 92; refine (same_any e c a _ hcr).mono ?_; rintro e1 w1 ⟨rfl, hb1⟩; rw [hq]))
        go_ret
        refine ⟨k, rfl, ?_, (by repeat' (first | with_reducible exact Below.refl _ _ | with_reducible assumption | with_reducible refine Below.alloc ?_ ?_ _ | with_reducible refine Below.setCell ?_ ?_ _ | with_reducible refine Below.drew ?_ | with_reducible refine below_drewN ?_ _ | with_reducible refine Below.trans ?_ (Below.mono (by with_reducible assumption) ?_) | omega | (simp <;> omega)))⟩
        rw [decide_eq_true (by omega)]
        have h2 := Hst.out
        rw [hq] at h2
        symm
        rw [List.any_eq_true] at h2 ⊢
        obtain ⟨x, hx, hxe⟩ := h2
        exact ⟨x, List.mem_of_mem_take hx, hxe⟩
      | false =>
        have Hst := hide hstep
        clear hstep
        go_wp2_with (first | (go_at_call 92; refine (same_any e c a _ hcr).mono ?_; rintro e1 w1 ⟨rfl, hb1⟩; rw [hq]))
        exact ⟨⟨k + 1, by go_num, by omega, by rw [Hst.out, hq], (by repeat' (first | with_reducible exact Below.refl _ _ | with_reducible assumption | with_reducible refine Below.alloc ?_ ?_ _ | with_reducible refine Below.setCell ?_ ?_ _ | with_reducible refine Below.drew ?_ | with_reducible refine below_drewN ?_ _ | with_reducible refine Below.trans ?_ (Below.mono (by with_reducible assumption) ?_) | omega | (simp <;> omega)))⟩, by simp [intOf]; omega⟩
    · obtain rfl : n = k := by omega
      go_wp2_with fail
      go_ret
      refine ⟨-1, rfl, ?_, (by repeat' (first | with_reducible exact Below.refl _ _ | with_reducible assumption | with_reducible refine Below.alloc ?_ ?_ _ | with_reducible refine Below.setCell ?_ ?_ _ | with_reducible refine Below.drew ?_ | with_reducible refine below_drewN ?_ _ | with_reducible refine Below.trans ?_ (Below.mono (by with_reducible assumption) ?_) | omega | (simp <;> omega)))⟩
      rw [List.take_of_length_le (by rw [Hl.out]; exact Nat.le_refl _)] at hno
      rw [hno]
      rfl
theorem contains_any (A : Option Addr) (n cap : Nat) (es : List En) (c : Nat) (a : Int) (w : World) (hr : Rd w w.heap.size 6 A n (es.flatMap ec)) (hl : es.length = n) (hn : n ≤ 1000) (hc : w.cell? ⟨c, 0, none⟩ = some (.int .i64 a)) :
    Calls Tryz.prog 91 #[.slice A n cap, .func (.func 92) #[] #[.pointer (some ⟨c, 0, none⟩)]] w fun e' w' => e' = .returned (.bool (es.any (fun e => e.a == a))) ∧ Below w.heap.size w w' := by
  go_enter Tryz.func91, Tryz.ntmps91
  go_wp2_with (first | (go_at_call 101; refine (index_any A n cap es c a _ hr hl hn hc).mono ?_; rintro e1 w1 ⟨r, rfl, hd, hb1⟩))
  go_ret
  exact ⟨by rw [← hd]; rfl, (by repeat' (first | with_reducible exact Below.refl _ _ | with_reducible assumption | with_reducible refine Below.alloc ?_ ?_ _ | with_reducible refine Below.setCell ?_ ?_ _ | with_reducible refine Below.drew ?_ | with_reducible refine below_drewN ?_ _ | with_reducible refine Below.trans ?_ (Below.mono (by with_reducible assumption) ?_) | omega | (simp <;> omega)))⟩
/-- The first error of a list of entries. -/
def scanE : List En → List En → Int
  | _, [] => 0
  | pre, e :: rest => if wrongL e ≠ 0 then wrongL e else if pre.any (fun x => x.a == e.a) then 11 else scanE (pre ++ [e]) rest
def checkE (es : List En) : Int := if es.length = 0 then 8 else if 32 < es.length then 15 else scanE [] es
theorem Rd.take {w : World} {B size n k : Nat} {A : Option Addr} {g : En → List Value} {es : List En} (hr : Rd w B size A n (es.flatMap g)) (hg : ∀ e, (g e).length = size) (hl : es.length = n) (hk : k ≤ n) : Rd w B size A k ((es.take k).flatMap g) := by
  have hlen : ((es.take k).flatMap g).length = k * size := by
    rw [List.length_flatMap, show (es.take k).map (fun a => (g a).length) = (es.take k).map (fun _ => size) from List.map_congr_left (fun a _ => hg a), List.map_const', List.sum_replicate_nat, List.length_take, Nat.min_eq_left (by omega)]
  refine ⟨hlen, fun h0 => ?_⟩
  obtain ⟨b, off, e, hb, hc⟩ := hr.2 (by omega)
  refine ⟨b, off, e, hb, fun j u hu => hc j u ?_⟩
  have e1 : es.flatMap g = (es.take k).flatMap g ++ (es.drop k).flatMap g := by rw [← List.flatMap_append, List.take_append_drop]
  rw [e1, List.getElem?_append_left (List.getElem?_eq_some_iff.1 hu).1]
  exact hu
set_option maxHeartbeats 2000000 in
theorem check_any (A : Option Addr) (n cap : Nat) (es : List En) (w : World) (hr : Rd w w.heap.size 6 A n (es.flatMap ec)) (hl : es.length = n) (hn : n ≤ 1000) (hcap : n ≤ cap) (hc2 : cap ≤ maxLen) (hok : ∀ e ∈ es, e.ok) :
    Calls Tryz.prog 74 #[.slice A n cap] w fun e' w' => e' = .returned (.int .i64 (checkE es)) ∧ Below w.heap.size w w' := by
  have Hr := hide hr
  have Hl := hide hl
  have Hok := hide hok
  unfold checkE
  rw [hl]
  clear hr hl hok
  by_cases h0 : n = 0
  · subst h0
    rw [if_pos rfl]
    go_enter Tryz.func74, Tryz.ntmps74
    go_wp2_with fail
    go_ret
    exact ⟨rfl, (by repeat' (first | with_reducible exact Below.refl _ _ | with_reducible assumption | with_reducible refine Below.alloc ?_ ?_ _ | with_reducible refine Below.setCell ?_ ?_ _ | with_reducible refine Below.drew ?_ | with_reducible refine below_drewN ?_ _ | with_reducible refine Below.trans ?_ (Below.mono (by with_reducible assumption) ?_) | omega | (simp <;> omega)))⟩
  by_cases h1 : 32 < n
  · rw [if_neg h0, if_pos h1]
    go_enter Tryz.func74, Tryz.ntmps74
    go_wp2_with fail
    go_ret
    exact ⟨rfl, (by repeat' (first | with_reducible exact Below.refl _ _ | with_reducible assumption | with_reducible refine Below.alloc ?_ ?_ _ | with_reducible refine Below.setCell ?_ ?_ _ | with_reducible refine Below.drew ?_ | with_reducible refine below_drewN ?_ _ | with_reducible refine Below.trans ?_ (Below.mono (by with_reducible assumption) ?_) | omega | (simp <;> omega)))⟩
  rw [if_neg h0, if_neg h1]
  have hn0 : 0 < n := by omega
  have hn1 : n ≤ 32 := by omega
  obtain ⟨R, hR⟩ : ∃ R, R = scanE [] es := ⟨_, rfl⟩
  rw [← hR]
  have HR := hide hR
  have hnb : ((n : Int) == 0) = false := by simp; omega
  have hnc : decide ((32 : Int) < (n : Int)) = false := by simp; omega
  clear hR h0 h1
  go_enter Tryz.func74, Tryz.ntmps74
  go_wp2_with fail
  go_loopw [16] (fun i wr => ∃ k : Nat, i = .int .i64 k ∧ k ≤ n ∧ R = scanE (es.take k) (es.drop k) ∧ Below w.heap.size w wr) (fun i _ => n - (intOf i).toNat)
  case atStart => exact ⟨0, rfl, by omega, HR.out, (by repeat' (first | with_reducible exact Below.refl _ _ | with_reducible assumption | with_reducible refine Below.alloc ?_ ?_ _ | with_reducible refine Below.setCell ?_ ?_ _ | with_reducible refine Below.drew ?_ | with_reducible refine below_drewN ?_ _ | with_reducible refine Below.trans ?_ (Below.mono (by with_reducible assumption) ?_) | omega | (simp <;> omega)))⟩
  case round =>
    obtain ⟨k, rfl, hk, hno, hB⟩ := hrel
    have hsz := hB.size
    by_cases hlt : k < n
    · have hz1 : es[k]? = some (es[k]'(by rw [Hl.out]; omega)) := List.getElem?_eq_getElem _
      obtain ⟨b, off, rfl, hbb, hcA⟩ := Hr.out.elem (fun _ => rfl) hlt hz1
      obtain ⟨e, he⟩ : ∃ e, e = es[k]'(by rw [Hl.out]; omega) := ⟨_, rfl⟩
      rw [← he] at hcA hz1
      have hbw : ∀ j u, (ec e)[j]? = some u → wr.cell? ⟨b, off + k * 6 + j, none⟩ = some u := fun j u hu => (hB.cell (p := ⟨b, off + k * 6 + j, none⟩) hbb).trans (hcA j u hu)
      have l0 : wr.cell? ⟨b, off + k * 6, none⟩ = some (.int .i64 e.a) := hbw 0 _ rfl
      have l1 : wr.cell? ⟨b, off + k * 6 + 1, none⟩ = some (.int .i64 e.o.v) := hbw 1 _ rfl
      have l2 : wr.cell? ⟨b, off + k * 6 + 2, none⟩ = some (.int .u32 e.o.r) := hbw 2 _ rfl
      have l3 : wr.cell? ⟨b, off + k * 6 + 3, none⟩ = some (.int .u32 e.o.f) := hbw 3 _ rfl
      have l4 : wr.cell? ⟨b, off + k * 6 + 4, none⟩ = some (.int .i64 e.n) := hbw 4 _ rfl
      have l5 : wr.cell? ⟨b, off + k * 6 + 5, none⟩ = some (.bool e.w) := hbw 5 _ rfl
      have hbr : b < wr.heap.size := by omega
      have hki : (0 : Int) ≤ (k : Int) := by omega
      have hkj : (k : Int) < (n : Int) := by omega
      have hkc : (k : Int) ≤ (cap : Int) := by omega
      have hkc2 : k ≤ cap := by omega
      have hdrop : es.drop k = e :: es.drop (k + 1) := by
        rw [he]
        exact List.drop_eq_getElem_cons (by rw [Hl.out]; omega)
      have htake : es.take (k + 1) = es.take k ++ [e] := by rw [List.take_add_one, hz1]; rfl
      have heok : e.ok := Hok.out e (List.mem_of_getElem? hz1)
      rw [hdrop] at hno
      simp only [scanE] at hno
      obtain ⟨W, hW⟩ : ∃ W, W = wrongL e := ⟨_, rfl⟩
      rw [← hW] at hno
      have HW := hide hW
      have Hno := hide hno
      have Htk := hide htake
      have Hrk := hide ((Hr.out.take (k := k) (fun _ => rfl) Hl.out hk).below hB)
      have Hlk : Hid ((es.take k).length = k) := hide (by rw [List.length_take, Hl.out]; omega)
      clear hcA hbw he hz1 hdrop htake hno hW
      by_cases hw0 : W = 0
      · subst hw0
        cases hq : (es.take k).any (fun x => x.a == e.a) with
        | true =>
          go_wp2_with (first
            | (go_at_call 90; refine (wrong_any e _ heok).mono ?_; rintro e1 w1 ⟨rfl, hb1⟩; rw [← HW.out]; obtain ⟨hcc1, hff1⟩ := bcell hb1; have hs1 := hb1.size; (try simp at hs1); have hz1 : wr.heap.size < w1.heap.size := (by omega); have hcx : w1.cell? ⟨wr.heap.size, 0, none⟩ = some (.int .i64 e.a) := (by go_simp); have hB1 : Below w.heap.size wr w1 := (by repeat' (first | with_reducible exact Below.refl _ _ | with_reducible assumption | with_reducible refine Below.alloc ?_ ?_ _ | with_reducible refine Below.setCell ?_ ?_ _ | with_reducible refine Below.drew ?_ | with_reducible refine below_drewN ?_ _ | with_reducible refine Below.trans ?_ (Below.mono (by with_reducible assumption) ?_) | omega | (simp <;> omega))))
            | (go_at_call 91; refine (contains_any (some ⟨b, off, none⟩) k cap (es.take k) wr.heap.size e.a _ ((Hrk.out.below hB1).more (by omega)) Hlk.out (by omega) hcx).mono ?_; rintro e2 w2 ⟨rfl, hb2⟩; rw [hq]))
          go_ret
          have h := Hno.out
          rw [hq] at h
          simp only [ne_eq, not_true_eq_false, if_false, if_true] at h
          exact ⟨by rw [h]; rfl, (by repeat' (first | with_reducible exact Below.refl _ _ | with_reducible assumption | with_reducible refine Below.alloc ?_ ?_ _ | with_reducible refine Below.setCell ?_ ?_ _ | with_reducible refine Below.drew ?_ | with_reducible refine below_drewN ?_ _ | with_reducible refine Below.trans ?_ (Below.mono (by with_reducible assumption) ?_) | omega | (simp <;> omega)))⟩
        | false =>
          go_wp2_with (first
            | (go_at_call 90; refine (wrong_any e _ heok).mono ?_; rintro e1 w1 ⟨rfl, hb1⟩; rw [← HW.out]; obtain ⟨hcc1, hff1⟩ := bcell hb1; have hs1 := hb1.size; (try simp at hs1); have hz1 : wr.heap.size < w1.heap.size := (by omega); have hcx : w1.cell? ⟨wr.heap.size, 0, none⟩ = some (.int .i64 e.a) := (by go_simp); have hB1 : Below w.heap.size wr w1 := (by repeat' (first | with_reducible exact Below.refl _ _ | with_reducible assumption | with_reducible refine Below.alloc ?_ ?_ _ | with_reducible refine Below.setCell ?_ ?_ _ | with_reducible refine Below.drew ?_ | with_reducible refine below_drewN ?_ _ | with_reducible refine Below.trans ?_ (Below.mono (by with_reducible assumption) ?_) | omega | (simp <;> omega))))
            | (go_at_call 91; refine (contains_any (some ⟨b, off, none⟩) k cap (es.take k) wr.heap.size e.a _ ((Hrk.out.below hB1).more (by omega)) Hlk.out (by omega) hcx).mono ?_; rintro e2 w2 ⟨rfl, hb2⟩; rw [hq]))
          have h := Hno.out
          rw [hq] at h
          simp only [ne_eq, not_true_eq_false, if_false, Bool.false_eq_true] at h
          exact ⟨⟨k + 1, by go_num, by omega, by rw [Htk.out]; exact h, (by repeat' (first | with_reducible exact Below.refl _ _ | with_reducible assumption | with_reducible refine Below.alloc ?_ ?_ _ | with_reducible refine Below.setCell ?_ ?_ _ | with_reducible refine Below.drew ?_ | with_reducible refine below_drewN ?_ _ | with_reducible refine Below.trans ?_ (Below.mono (by with_reducible assumption) ?_) | omega | (simp <;> omega)))⟩, by simp [intOf]; omega⟩
      · have hwb : (W != 0) = true := by simp [hw0]
        go_wp2_with (first
          | (go_at_call 90; refine (wrong_any e _ heok).mono ?_; rintro e1 w1 ⟨rfl, hb1⟩; rw [← HW.out]; obtain ⟨hcc1, hff1⟩ := bcell hb1; have hs1 := hb1.size; (try simp at hs1); have hz1 : wr.heap.size < w1.heap.size := (by omega); have hcx : w1.cell? ⟨wr.heap.size, 0, none⟩ = some (.int .i64 e.a) := (by go_simp); have hB1 : Below w.heap.size wr w1 := (by repeat' (first | with_reducible exact Below.refl _ _ | with_reducible assumption | with_reducible refine Below.alloc ?_ ?_ _ | with_reducible refine Below.setCell ?_ ?_ _ | with_reducible refine Below.drew ?_ | with_reducible refine below_drewN ?_ _ | with_reducible refine Below.trans ?_ (Below.mono (by with_reducible assumption) ?_) | omega | (simp <;> omega)))))
        go_ret
        have h := Hno.out
        rw [if_pos hw0] at h
        exact ⟨by rw [h]; rfl, (by repeat' (first | with_reducible exact Below.refl _ _ | with_reducible assumption | with_reducible refine Below.alloc ?_ ?_ _ | with_reducible refine Below.setCell ?_ ?_ _ | with_reducible refine Below.drew ?_ | with_reducible refine below_drewN ?_ _ | with_reducible refine Below.trans ?_ (Below.mono (by with_reducible assumption) ?_) | omega | (simp <;> omega)))⟩
    · obtain rfl : n = k := by omega
      go_wp2_with fail
      go_ret
      rw [List.drop_of_length_le (by rw [Hl.out]; exact Nat.le_refl _)] at hno
      exact ⟨by rw [hno]; rfl, (by repeat' (first | with_reducible exact Below.refl _ _ | with_reducible assumption | with_reducible refine Below.alloc ?_ ?_ _ | with_reducible refine Below.setCell ?_ ?_ _ | with_reducible refine Below.drew ?_ | with_reducible refine below_drewN ?_ _ | with_reducible refine Below.trans ?_ (Below.mono (by with_reducible assumption) ?_) | omega | (simp <;> omega)))⟩
end Go.Proofs.YtbomhhkknopdpaaGreatDoor
