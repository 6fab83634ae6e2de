/- Package word: Ref, Who, kind, Plain. -/
import Derived.Test.YtapjfhbonfehpaaGreatDoorV11
set_option linter.unusedSimpArgs false
set_option linter.unusedVariables false
set_option maxRecDepth 100000
set_option maxHeartbeats 40000000
namespace Go.Proofs.YtapjfhbonfehpaaGreatDoor
open Go.RowKit
def aT (f : Int) : Int × Int := if f / 16777216 < 1 ∨ 72 < f / 16777216 ∨ f % 16777216 < 1 then (0, 0) else (f / 16777216, f % 16777216)
theorem NE (who seq : Int) (w : World) (h : who < 1 ∨ 72 < who ∨ seq < 1) : Calls Tryz.prog 63 #[.int .i64 who, .int .i64 seq] w fun e w' => e = .returned (.tuple #[.int .u32 0, .int .i64 3]) ∧ w' = w := by
 by_cases h1 : who < 1;all_goals by_cases h2 : 72 < who
 all_goals by_cases h3 : seq < 1
 all_goals first | (exfalso; omega) | clear h
 all_goals go_enter Tryz.func63, Tryz.ntmps63
 all_goals go_wp2_with fail
 all_goals go_ret2
 all_goals exact ⟨rfl, rfl⟩
theorem ND (who seq : Int) (w : World) (h1 : 1 ≤ who) (h2 : who ≤ 72) (h3 : 1 ≤ seq) (h4 : seq ≤ 16777215) : Calls Tryz.prog 63 #[.int .i64 who, .int .i64 seq] w fun e w' => ∃ v, e = .returned (.tuple #[.int .u32 v, .int .i64 0]) ∧ w' = w := by
 go_enter Tryz.func63, Tryz.ntmps63;go_wp2_with fail;all_goals go_ret2
 all_goals exact ⟨_, rfl, rfl⟩
theorem wraps_u32 (n : Int) (h₀ : 0 ≤ n) (h₁ : n < 2 ^ 32) : IntKind.u32.wrap n = n := by rw [IntKind.wrap_u32]; omega
theorem Mp (f : Int) (h0 : 0 ≤ f) (h1 : f < 4294967296) : bits .and .u32 f 16777215 = f % 16777216 := by
 have h := bits_mask .u32 32 dM wraps_u32 24 dM f h0 oM;have e : ((2 : Int) ^ 24 - 1) = 16777215 := by decide
 have e2 : ((2 : Int) ^ 24) = 16777216 := by decide
 rw [e, e2] at h;exact h
theorem sj (f : Int) (w : World) (h0 : 0 ≤ f) (h1 : f < 4294967296) : Calls Tryz.prog 45 #[.int .u32 f] w fun e w' => e = .returned (.tuple #[.int .i64 (aT f).1, .int .i64 (aT f).2]) ∧ w' = w := by
 have ha : wrap64 (bits .and .u32 f 16777215) = f % 16777216 := by
  rw [Mp f h0 h1];unfold wrap64;(try split);all_goals omega
 by_cases h : f / 16777216 < 1 ∨ 72 < f / 16777216 ∨ f % 16777216 < 1
 ·have e : aT f = (0, 0) := by unfold aT; rw [if_pos h]
  rw [e];go_enter Tryz.func45, Tryz.ntmps45;go_wp2_with fail;rw [ha];refine (NE _ _ _ h).mono ?_;rintro e w1 ⟨rfl, rfl⟩;go_wp2_with fail
  go_ret2
  exact ⟨rfl, rfl⟩
 ·have e : aT f = (f / 16777216, f % 16777216) := by unfold aT; rw [if_neg h]
  rw [e];go_enter Tryz.func45, Tryz.ntmps45;go_wp2_with fail;rw [ha];refine (ND _ _ _ oM oM oM oM).mono ?_;rintro e w1 ⟨v, rfl, rfl⟩;go_wp2_with fail
  go_ret2
  exact ⟨rfl, rfl⟩
def Dy (x : W3) : Int := if x.f = 0 then 0 else if 0 < (aT x.f).1 then 1 else 2
theorem Ih (x : W3) (w : World) (hx : x.ok) : Calls Tryz.prog 93 #[(qg x)] w (cd (.int .i64 (Dy x)) w) := by
 obtain ⟨h1, h2, h3, h4, h5, h6⟩ := hx;unfold Dy;by_cases hf : x.f = 0
 ·simp only [hf, if_true];go_enter Tryz.func93, Tryz.ntmps93;go_wp2_with (first
   | (go_at_call 45; refine (sj _ _ oM oM).mono ?_; rintro e w1 ⟨rfl, rfl⟩))
  go_ret;exact ⟨rfl, ae⟩
 ·by_cases hw : 0 < (aT x.f).1;all_goals simp only [hf, hw, if_true, if_false]
  all_goals go_enter Tryz.func93, Tryz.ntmps93
  all_goals go_wp2_with (first
   | (go_at_call 45; refine (sj _ _ oM oM).mono ?_; rintro e w1 ⟨rfl, rfl⟩))
  all_goals go_ret
  all_goals exact ⟨rfl, ae⟩
theorem ku (x : W3) (w : World) (hx : x.ok) : Calls Tryz.prog 85 #[(qg x)] w (cd (.bool (decide (x.f = 0))) w) := by
 have hk : (Dy x == 0) = decide (x.f = 0) := by
  unfold Dy;split
  ·simp [*]
  ·split <;> simp [*]
 go_enter Tryz.func85, Tryz.ntmps85;go_wp2_with (first
  | (go_at_call 93; refine (Ih x _ hx).mono ?_; rintro e w1 ⟨rfl, hb1⟩))
 go_ret;exact ⟨rfl, ae⟩
structure En where
 a : Int
 o : W3
 n : Int
 w : Bool
deriving DecidableEq
def ec (e : En) : List Value := [.int .i64 e.a, .int .i64 e.o.v, .int .u32 e.o.r, .int .u32 e.o.f, .int .i64 e.n, .bool e.w]
def En.ok (e : En) : Prop := e.o.ok
def nW (e : En) : Int := if e.a < 0 ∨ 4096 ≤ e.a then 3 else if e.o.f ≠ 0 then 13 else if e.w = true ∧ e.o.r = 4294967295 then 9 else if e.w = false ∧ e.n ≠ e.o.v then 4 else 0
theorem Gm (a v r f n : Int) (w : World) (b : Bool) (h : a < 0) : Calls Tryz.prog 75 #[.agg #[.int .i64 a, .int .i64 v, .int .u32 r, .int .u32 f, .int .i64 n, .bool b]] w fun e' w' => e' = .returned (.int .i64 3) ∧ Below w.heap.size w w' := by
 go_enter Tryz.func75, Tryz.ntmps75;go_wp2_with fail;go_ret;exact ⟨rfl, ae⟩
theorem Gl (a v r f n : Int) (w : World) (b : Bool) (h : 4096 ≤ a) : Calls Tryz.prog 75 #[.agg #[.int .i64 a, .int .i64 v, .int .u32 r, .int .u32 f, .int .i64 n, .bool b]] w fun e' w' => e' = .returned (.int .i64 3) ∧ Below w.heap.size w w' := by
 have h0 : ¬ a < 0 := by omega
 go_enter Tryz.func75, Tryz.ntmps75;go_wp2_with fail;go_ret;exact ⟨rfl, ae⟩
theorem KF (a v r f n : Int) (w : World) (b : Bool) (h0 : 0 ≤ a) (h1 : a < 4096) (hx : (⟨v, r, f⟩ : W3).ok) (hf : f ≠ 0) : Calls Tryz.prog 75 #[.agg #[.int .i64 a, .int .i64 v, .int .u32 r, .int .u32 f, .int .i64 n, .bool b]] w fun e' w' => e' = .returned (.int .i64 13) ∧ Below w.heap.size w w' := by
 have Hp := aa (fun W => ku ⟨v, r, f⟩ W hx);have hd : decide ((⟨v, r, f⟩ : W3).f = 0) = false := by simp; exact hf
 clear hf;go_enter Tryz.func75, Tryz.ntmps75;go_wp2_with (first
  | (go_at_call 85; refine (Hp.out _).mono ?_; rintro e1 w1 ⟨rfl, hb1⟩; rw [hd]; obtain ⟨ar, aA, hs1⟩ := bC hb1; (try simp at hs1); have hz1 := zL w.heap.size w1))
 go_ret;exact ⟨rfl, ae⟩
theorem KD (a v n : Int) (w : World) (h0 : 0 ≤ a) (h1 : a < 4096) (hx : (⟨v, 4294967295, 0⟩ : W3).ok) : Calls Tryz.prog 75 #[.agg #[.int .i64 a, .int .i64 v, .int .u32 4294967295, .int .u32 0, .int .i64 n, .bool true]] w fun e' w' => e' = .returned (.int .i64 9) ∧ Below w.heap.size w w' := by
 have Hp := aa (fun W => ku ⟨v, 4294967295, 0⟩ W hx);have hd : decide ((⟨v, 4294967295, 0⟩ : W3).f = 0) = true := by simp
 go_enter Tryz.func75, Tryz.ntmps75;go_wp2_with (first
  | (go_at_call 85; refine (Hp.out _).mono ?_; rintro e1 w1 ⟨rfl, hb1⟩; rw [hd]; obtain ⟨ar, aA, hs1⟩ := bC hb1; (try simp at hs1); have hz1 := zL w.heap.size w1))
 go_ret;exact ⟨rfl, ae⟩
theorem KC (a v r n : Int) (w : World) (h0 : 0 ≤ a) (h1 : a < 4096) (hx : (⟨v, r, 0⟩ : W3).ok) (hr : (r == 4294967295) = false) : Calls Tryz.prog 75 #[.agg #[.int .i64 a, .int .i64 v, .int .u32 r, .int .u32 0, .int .i64 n, .bool true]] w fun e' w' => e' = .returned (.int .i64 0) ∧ Below w.heap.size w w' := by
 have Hp := aa (fun W => ku ⟨v, r, 0⟩ W hx);have hd : decide ((⟨v, r, 0⟩ : W3).f = 0) = true := by simp
 go_enter Tryz.func75, Tryz.ntmps75;go_wp2_with (first
  | (go_at_call 85; refine (Hp.out _).mono ?_; rintro e1 w1 ⟨rfl, hb1⟩; rw [hd]; obtain ⟨ar, aA, hs1⟩ := bC hb1; (try simp at hs1); have hz1 := zL w.heap.size w1))
 go_ret;exact ⟨rfl, ae⟩
theorem KG (a v r : Int) (w : World) (h0 : 0 ≤ a) (h1 : a < 4096) (hx : (⟨v, r, 0⟩ : W3).ok) : Calls Tryz.prog 75 #[.agg #[.int .i64 a, .int .i64 v, .int .u32 r, .int .u32 0, .int .i64 v, .bool false]] w fun e' w' => e' = .returned (.int .i64 0) ∧ Below w.heap.size w w' := by
 have Hp := aa (fun W => ku ⟨v, r, 0⟩ W hx);have hd : decide ((⟨v, r, 0⟩ : W3).f = 0) = true := by simp
 go_enter Tryz.func75, Tryz.ntmps75;go_wp2_with (first
  | (go_at_call 85; refine (Hp.out _).mono ?_; rintro e1 w1 ⟨rfl, hb1⟩; rw [hd]; obtain ⟨ar, aA, hs1⟩ := bC hb1; (try simp at hs1); have hz1 := zL w.heap.size w1))
 go_ret;exact ⟨rfl, ae⟩
theorem KE (a v r n : Int) (w : World) (h0 : 0 ≤ a) (h1 : a < 4096) (hx : (⟨v, r, 0⟩ : W3).ok) (hn : (n != v) = true) : Calls Tryz.prog 75 #[.agg #[.int .i64 a, .int .i64 v, .int .u32 r, .int .u32 0, .int .i64 n, .bool false]] w fun e' w' => e' = .returned (.int .i64 4) ∧ Below w.heap.size w w' := by
 have Hp := aa (fun W => ku ⟨v, r, 0⟩ W hx);have hd : decide ((⟨v, r, 0⟩ : W3).f = 0) = true := by simp
 go_enter Tryz.func75, Tryz.ntmps75;go_wp2_with (first
  | (go_at_call 85; refine (Hp.out _).mono ?_; rintro e1 w1 ⟨rfl, hb1⟩; rw [hd]; obtain ⟨ar, aA, hs1⟩ := bC hb1; (try simp at hs1); have hz1 := zL w.heap.size w1))
 go_ret;exact ⟨rfl, ae⟩
theorem qo (e : En) (w : World) (he : e.ok) : Calls Tryz.prog 75 #[(.agg #[.int .i64 (e).a, .int .i64 (e).o.v, .int .u32 (e).o.r, .int .u32 (e).o.f, .int .i64 (e).n, .bool (e).w])] w fun r w' => r = .returned (.int .i64 (nW e)) ∧ Below w.heap.size w w' := by
 obtain ⟨a, ⟨v, r, f⟩, n, b⟩ := e;unfold nW;simp only [];by_cases h1 : a < 0
 ·rw [if_pos (Or.inl h1)];exact Gm a v r f n w b h1
 by_cases h2 : 4096 ≤ a
 ·rw [if_pos (Or.inr h2)];exact Gl a v r f n w b h2
 rw [if_neg oM];by_cases h3 : f = 0
 ·subst h3;rw [if_neg sM];cases b with
  | true =>
   by_cases h4 : r = 4294967295
   ·subst h4;rw [if_pos ⟨rfl, rfl⟩];exact KD a v n w oM oM he
   ·rw [if_neg (by simp [h4]), if_neg sM];exact KC a v r n w oM oM he (by simp [h4])
  | false =>
   rw [if_neg sM];by_cases h4 : n = v
   ·subst h4;rw [if_neg sM];exact KG a n r w oM oM he
   ·rw [if_pos ⟨rfl, h4⟩];exact KE a v r n w oM oM he (by simp [h4])
 ·rw [if_pos h3];exact KF a v r f n w b oM oM he h3
theorem zy (e : En) (c : Nat) (a : Int) (w : World) (hc : w.cell? ⟨c, 0, none⟩ = some (.int .i64 a)) : Calls Tryz.prog 77 #[(.agg #[.int .i64 (e).a, .int .i64 (e).o.v, .int .u32 (e).o.r, .int .u32 (e).o.f, .int .i64 (e).n, .bool (e).w]), .pointer (some ⟨c, 0, none⟩)] w fun e' w' => e' = .returned (.bool (e.a == a)) ∧ Below w.heap.size w w' := by
 have hz := cB hc;simp only [] at hz;go_enter Tryz.func77, Tryz.ntmps77;go_wp2_with fail;go_ret;exact ⟨rfl, ae⟩
theorem E1 (A : Option Addr) (n cap : Nat) (es : List En) (c : Nat) (a : Int) (w : World) (hr : Rd w w.heap.size 6 A n (es.flatMap ec)) (hl : es.length = n) (hn : n ≤ 1000) (hc : w.cell? ⟨c, 0, none⟩ = some (.int .i64 a)) :
  Calls Tryz.prog 86 #[.slice A n cap, .func (.func 77) #[] #[.pointer (some ⟨c, 0, none⟩)]] w fun e' w' => ∃ r : Int, e' = .returned (.int .i64 r) ∧ (decide (0 ≤ r) = es.any (fun e => e.a == a)) ∧ Below w.heap.size w w' := by
 have hz := cB hc;simp only [] at hz;have Hr := aa hr;have Hl := aa hl;clear hr hl;go_enter Tryz.func86, Tryz.ntmps86;go_wp2_with fail
 go_loopw [8] (fun i wr => ∃ k : Nat, i = .int .i64 k ∧ k ≤ n ∧ (es.take k).any (fun e => e.a == a) = false ∧ Below w.heap.size w wr) (fun i _ => n - (intOf i).toNat)
 case atStart => exact ⟨0, rfl, by omega, rfl, ae⟩
 case round =>
  obtain ⟨k, rfl, hk, hno, hB⟩ := hrel;have hsz := hB.size;by_cases hlt : k < n
  ·have hz1 : es[k]? = some (es[k]'(by rw [Hl.out]; omega)) := List.getElem?_eq_getElem _;obtain ⟨b, off, rfl, Fl, hcA⟩ := Hr.out.elem (fun _ => rfl) hlt hz1;obtain ⟨e, he⟩ : ∃ e, e = es[k]'(by rw [Hl.out]; omega) := ⟨_, rfl⟩;rw [← he] at hcA hz1;have hbw : ∀ j u, (ec e)[j]? = some u → wr.cell? ⟨b, off + k * 6 + j, none⟩ = some u := fun j u hu => (hB.cell (p := ⟨b, off + k * 6 + j, none⟩) Fl).trans (hcA j u hu);have l0 : wr.cell? ⟨b, off + k * 6, none⟩ = some (.int .i64 e.a) := hbw 0 _ rfl;have l1 : wr.cell? ⟨b, off + k * 6 + 1, none⟩ = some (.int .i64 e.o.v) := hbw 1 _ rfl;have l2 : wr.cell? ⟨b, off + k * 6 + 2, none⟩ = some (.int .u32 e.o.r) := hbw 2 _ rfl;have l3 : wr.cell? ⟨b, off + k * 6 + 3, none⟩ = some (.int .u32 e.o.f) := hbw 3 _ rfl;have l4 : wr.cell? ⟨b, off + k * 6 + 4, none⟩ = some (.int .i64 e.n) := hbw 4 _ rfl;have l5 : wr.cell? ⟨b, off + k * 6 + 5, none⟩ = some (.bool e.w) := hbw 5 _ rfl;have xa : wr.cell? ⟨c, 0, none⟩ = some (.int .i64 a) := cT hB hc hz;have hki : (0 : Int) ≤ (k : Int) := by omega
   have hkj : (k : Int) < (n : Int) := by omega
   have hstep : (es.take (k + 1)).any (fun e => e.a == a) = (e.a == a) := by
    rw [List.take_add_one, List.any_append, hno, hz1];simp
   clear hcA hbw he;cases hq : (e.a == a) with
   | true =>
    have fV := aa hstep;clear hstep;go_wp2_with (first | (go_at_call 77; refine (zy e c a _ xa).mono ?_; rintro e1 w1 ⟨rfl, hb1⟩; rw [hq]));go_ret;refine ⟨k, rfl, ?_, ae⟩;rw [decide_eq_true oM];have h2 := fV.out;rw [hq] at h2
    symm
    rw [List.any_eq_true] at h2 ⊢;obtain ⟨x, hx, hxe⟩ := h2;exact ⟨x, List.mem_of_mem_take hx, hxe⟩
   | false =>
    have fV := aa hstep;clear hstep;go_wp2_with (first | (go_at_call 77; refine (zy e c a _ xa).mono ?_; rintro e1 w1 ⟨rfl, hb1⟩; rw [hq]));exact ⟨⟨k + 1, by go_num, by omega, by rw [fV.out, hq], ae⟩, by simp [intOf]; omega⟩
  ·obtain rfl : n = k := by omega
   go_wp2_with fail;go_ret;refine ⟨-1, rfl, ?_, ae⟩;rw [List.take_of_length_le (by rw [Hl.out]; exact Nat.le_refl _)] at hno;rw [hno];rfl
theorem pY (A : Option Addr) (n cap : Nat) (es : List En) (c : Nat) (a : Int) (w : World) (hr : Rd w w.heap.size 6 A n (es.flatMap ec)) (hl : es.length = n) (hn : n ≤ 1000) (hc : w.cell? ⟨c, 0, none⟩ = some (.int .i64 a)) :
  Calls Tryz.prog 76 #[.slice A n cap, .func (.func 77) #[] #[.pointer (some ⟨c, 0, none⟩)]] w fun e' w' => e' = .returned (.bool (es.any (fun e => e.a == a))) ∧ Below w.heap.size w w' := by
 go_enter Tryz.func76, Tryz.ntmps76;go_wp2_with (first | (go_at_call 86; refine (E1 A n cap es c a _ hr hl hn hc).mono ?_; rintro e1 w1 ⟨r, rfl, hd, hb1⟩));go_ret;exact ⟨by rw [← hd]; rfl, ae⟩
def sW : List En → List En → Int
 | _, [] => 0
 | pre, e :: rest => if nW e ≠ 0 then nW e else if pre.any (fun x => x.a == e.a) then 11 else sW (pre ++ [e]) rest
def gF (es : List En) : Int := if es.length = 0 then 8 else if 32 < es.length then 15 else sW [] es
theorem Rd.take {w : World} {B size n k : Nat} {A : Option Addr} {g : En → List Value} {es : List En} (hr : Rd w B size A n (es.flatMap g)) (hg : ∀ e, (g e).length = size) (hl : es.length = n) (hk : k ≤ n) : Rd w B size A k ((es.take k).flatMap g) := by
 have hlen : ((es.take k).flatMap g).length = k * size := by
  rw [List.length_flatMap, show (es.take k).map (fun a => (g a).length) = (es.take k).map (fun _ => size) from List.map_congr_left (fun a _ => hg a), List.map_const', List.sum_replicate_nat, List.length_take, Nat.min_eq_left oM]
 refine ⟨hlen, fun h0 => ?_⟩;obtain ⟨b, off, e, hb, hc⟩ := hr.2 oM;refine ⟨b, off, e, hb, fun j u hu => hc j u ?_⟩;have e1 : es.flatMap g = (es.take k).flatMap g ++ (es.drop k).flatMap g := by rw [← List.flatMap_append, List.take_append_drop]
 rw [e1, List.getElem?_append_left (List.getElem?_eq_some_iff.1 hu).1];exact hu
theorem gM (A : Option Addr) (n cap : Nat) (es : List En) (w : World) (hr : Rd w w.heap.size 6 A n (es.flatMap ec)) (hl : es.length = n) (hn : n ≤ 1000) (hcap : n ≤ cap) (hc2 : cap ≤ maxLen) (hok : ∀ e ∈ es, e.ok) :
  Calls Tryz.prog 58 #[.slice A n cap] w fun e' w' => e' = .returned (.int .i64 (gF es)) ∧ Below w.heap.size w w' := by
 have Hr := aa hr;have Hl := aa hl;have pd := aa hok;unfold gF;rw [hl];clear hr hl hok;by_cases h0 : n = 0
 ·subst h0;rw [if_pos rfl];go_enter Tryz.func58, Tryz.ntmps58;go_wp2_with fail;go_ret;exact ⟨rfl, ae⟩
 by_cases h1 : 32 < n
 ·rw [if_neg h0, if_pos h1];go_enter Tryz.func58, Tryz.ntmps58;go_wp2_with fail;go_ret;exact ⟨rfl, ae⟩
 rw [if_neg h0, if_neg h1];have hn0 : 0 < n := by omega
 have hn1 : n ≤ 32 := by omega
 obtain ⟨R, hR⟩ : ∃ R, R = sW [] es := ⟨_, rfl⟩;rw [← hR];have HR := aa hR;have hnb : ((n : Int) == 0) = false := by simp; omega
 have hnc : decide ((32 : Int) < (n : Int)) = false := by simp; omega
 clear hR h0 h1;go_enter Tryz.func58, Tryz.ntmps58;go_wp2_with fail
 go_loopw [16] (fun i wr => ∃ k : Nat, i = .int .i64 k ∧ k ≤ n ∧ R = sW (es.take k) (es.drop k) ∧ Below w.heap.size w wr) (fun i _ => n - (intOf i).toNat)
 case atStart => exact ⟨0, rfl, by omega, HR.out, ae⟩
 case round =>
  obtain ⟨k, rfl, hk, hno, hB⟩ := hrel;have hsz := hB.size;by_cases hlt : k < n
  ·have hz1 : es[k]? = some (es[k]'(by rw [Hl.out]; omega)) := List.getElem?_eq_getElem _;obtain ⟨b, off, rfl, Fl, hcA⟩ := Hr.out.elem (fun _ => rfl) hlt hz1;obtain ⟨e, he⟩ : ∃ e, e = es[k]'(by rw [Hl.out]; omega) := ⟨_, rfl⟩;rw [← he] at hcA hz1;have hbw : ∀ j u, (ec e)[j]? = some u → wr.cell? ⟨b, off + k * 6 + j, none⟩ = some u := fun j u hu => (hB.cell (p := ⟨b, off + k * 6 + j, none⟩) Fl).trans (hcA j u hu);have l0 : wr.cell? ⟨b, off + k * 6, none⟩ = some (.int .i64 e.a) := hbw 0 _ rfl;have l1 : wr.cell? ⟨b, off + k * 6 + 1, none⟩ = some (.int .i64 e.o.v) := hbw 1 _ rfl;have l2 : wr.cell? ⟨b, off + k * 6 + 2, none⟩ = some (.int .u32 e.o.r) := hbw 2 _ rfl;have l3 : wr.cell? ⟨b, off + k * 6 + 3, none⟩ = some (.int .u32 e.o.f) := hbw 3 _ rfl;have l4 : wr.cell? ⟨b, off + k * 6 + 4, none⟩ = some (.int .i64 e.n) := hbw 4 _ rfl;have l5 : wr.cell? ⟨b, off + k * 6 + 5, none⟩ = some (.bool e.w) := hbw 5 _ rfl;have hbr := zL b wr;have hki : (0 : Int) ≤ (k : Int) := by omega
   have hkj : (k : Int) < (n : Int) := by omega
   have hkc : (k : Int) ≤ (cap : Int) := by omega
   have Tl : k ≤ cap := by omega
   have hdrop : es.drop k = e :: es.drop (k + 1) := by
    rw [he];exact List.drop_eq_getElem_cons (by rw [Hl.out]; omega)
   have pL : es.take (k + 1) = es.take k ++ [e] := by rw [List.take_add_one, hz1]; rfl
   have Ag : e.ok := pd.out e (List.mem_of_getElem? hz1);rw [hdrop] at hno;simp only [sW] at hno;obtain ⟨W, hW⟩ : ∃ W, W = nW e := ⟨_, rfl⟩;rw [← hW] at hno;have HW := aa hW;have PP := aa hno;have Kw := aa pL;have Hrk := aa ((Hr.out.take (k := k) (fun _ => rfl) Hl.out hk).below hB);have WP : Hid ((es.take k).length = k) := aa (by rw [List.length_take, Hl.out]; omega);clear hcA hbw he hz1 hdrop pL hno hW;by_cases hw0 : W = 0
   ·subst hw0;cases hq : (es.take k).any (fun x => x.a == e.a) with
    | true =>
     go_wp2_with (first
      | (go_at_call 75; refine (qo e _ Ag).mono ?_; rintro e1 w1 ⟨rfl, hb1⟩; rw [← HW.out]; obtain ⟨ar, aA, hs1⟩ := bC hb1; (try simp at hs1); have hz1 := zL wr.heap.size w1; have hcx : w1.cell? ⟨wr.heap.size, 0, none⟩ = some (.int .i64 e.a) := (by go_simp); have hB1 : Below w.heap.size wr w1 := ae)
      | (go_at_call 76; refine (pY (some ⟨b, off, none⟩) k cap (es.take k) wr.heap.size e.a _ ((Hrk.out.below hB1).more oM) WP.out oM hcx).mono ?_; rintro e2 w2 ⟨rfl, hb2⟩; rw [hq]))
     go_ret;have h := PP.out;rw [hq] at h;simp only [ne_eq, not_true_eq_false, if_false, if_true] at h;exact ⟨by rw [h]; rfl, ae⟩
    | false =>
     go_wp2_with (first
      | (go_at_call 75; refine (qo e _ Ag).mono ?_; rintro e1 w1 ⟨rfl, hb1⟩; rw [← HW.out]; obtain ⟨ar, aA, hs1⟩ := bC hb1; (try simp at hs1); have hz1 := zL wr.heap.size w1; have hcx : w1.cell? ⟨wr.heap.size, 0, none⟩ = some (.int .i64 e.a) := (by go_simp); have hB1 : Below w.heap.size wr w1 := ae)
      | (go_at_call 76; refine (pY (some ⟨b, off, none⟩) k cap (es.take k) wr.heap.size e.a _ ((Hrk.out.below hB1).more oM) WP.out oM hcx).mono ?_; rintro e2 w2 ⟨rfl, hb2⟩; rw [hq]))
     have h := PP.out;rw [hq] at h;simp only [ne_eq, not_true_eq_false, if_false, Bool.false_eq_true] at h;exact ⟨⟨k + 1, by go_num, by omega, by rw [Kw.out]; exact h, ae⟩, by simp [intOf]; omega⟩
   ·have hwb : (W != 0) = true := (by simp [hw0]);go_wp2_with (first
     | (go_at_call 75; refine (qo e _ Ag).mono ?_; rintro e1 w1 ⟨rfl, hb1⟩; rw [← HW.out]; obtain ⟨ar, aA, hs1⟩ := bC hb1; (try simp at hs1); have hz1 := zL wr.heap.size w1; have hcx : w1.cell? ⟨wr.heap.size, 0, none⟩ = some (.int .i64 e.a) := (by go_simp); have hB1 : Below w.heap.size wr w1 := ae))
    go_ret;have h := PP.out;rw [if_pos hw0] at h;exact ⟨by rw [h]; rfl, ae⟩
  ·obtain rfl : n = k := by omega
   go_wp2_with fail;go_ret;rw [List.drop_of_length_le (by rw [Hl.out]; exact Nat.le_refl _)] at hno;exact ⟨by rw [hno]; rfl, ae⟩
theorem DV (x y : En) (w : World) (hx : 0 ≤ x.a ∧ x.a < 4096) (hy : 0 ≤ y.a ∧ y.a < 4096) : Calls Tryz.prog 60 #[(.agg #[.int .i64 (x).a, .int .i64 (x).o.v, .int .u32 (x).o.r, .int .u32 (x).o.f, .int .i64 (x).n, .bool (x).w]), (.agg #[.int .i64 (y).a, .int .i64 (y).o.v, .int .u32 (y).o.r, .int .u32 (y).o.f, .int .i64 (y).n, .bool (y).w])] w fun e' w' => e' = .returned (.int .i64 (x.a - y.a)) ∧ Below w.heap.size w w' := by
 go_enter Tryz.func60, Tryz.ntmps60;go_wp2_with fail;go_ret;exact ⟨rfl, ae⟩
def QC (es : List En) (j : Nat) : Int := (es.map En.a).getD j 0
def d9 (es : List En) : Bool := (List.range (es.length - 1)).all fun j => decide (QC es j ≤ QC es (j + 1))
theorem JM {es : List En} {j : Nat} {e : En} (h : es[j]? = some e) : QC es j = e.a := by
 unfold QC;rw [List.getD_eq_getElem?_getD, List.getElem?_map, h];rfl
theorem fI (A : Option Addr) (n cap : Nat) (es : List En) (w : World) (hr : Rd w w.heap.size 6 A n (es.flatMap ec)) (hl : es.length = n) (hn : n ≤ 1000) (hb : ∀ e ∈ es, 0 ≤ e.a ∧ e.a < 4096) :
  Calls Tryz.prog 59 #[.slice A n cap, .func (.func 60) #[] #[]] w fun e' w' => e' = .returned (.bool (d9 es)) ∧ Below w.heap.size w w' := by
 have Hr := aa hr;have Hl := aa hl;have Hb := aa hb;obtain ⟨R, hR⟩ : ∃ R, R = d9 es := ⟨_, rfl⟩;have HR := aa hR;rw [← hR];clear hr hl hb hR;go_enter Tryz.func59, Tryz.ntmps59;go_wp2_with fail
 go_loopw [5] (fun i wr => ∃ k : Int, i = .int .i64 k ∧ -1 ≤ k ∧ k < n ∧ (∀ j : Nat, k ≤ j → j < n - 1 → QC es j ≤ QC es (j + 1)) ∧ Below w.heap.size w wr) (fun i _ => (intOf i + 1).toNat)
 case atStart => exact ⟨(n : Int) - 1, by go_num, by omega, by omega, fun j h1 h2 => by omega, ae⟩
 case round =>
  obtain ⟨k', rfl, hk0, hk, hno, hB⟩ := hrel;have hsz := hB.size;by_cases hlt : 0 < k'
  ·obtain ⟨k, rfl⟩ : ∃ k : Nat, k' = (k : Int) + 1 := ⟨(k' - 1).toNat, by omega⟩;have hz1 : es[k]? = some (es[k]'(by rw [Hl.out]; omega)) := List.getElem?_eq_getElem _;have hz2 : es[k + 1]? = some (es[k + 1]'(by rw [Hl.out]; omega)) := List.getElem?_eq_getElem _;obtain ⟨b, off, rfl, Fl, hcA⟩ := Hr.out.elem (fun _ => rfl) (show k < n by omega) hz1;obtain ⟨b2, zH, e2, TK, hcB⟩ := Hr.out.elem (fun _ => rfl) (show k + 1 < n by omega) hz2;injection e2 with e2
   injection e2 with e2 e3
   subst e2 e3;obtain ⟨x, hx⟩ : ∃ e, e = es[k]'(by rw [Hl.out]; omega) := ⟨_, rfl⟩;obtain ⟨y, hy⟩ : ∃ e, e = es[k + 1]'(by rw [Hl.out]; omega) := ⟨_, rfl⟩;rw [← hx] at hcA hz1;rw [← hy] at hcB hz2;have bx : ∀ j u, (ec x)[j]? = some u → wr.cell? ⟨b, off + k * 6 + j, none⟩ = some u := fun j u hu => (hB.cell (p := ⟨b, off + k * 6 + j, none⟩) Fl).trans (hcA j u hu);have bY : ∀ j u, (ec y)[j]? = some u → wr.cell? ⟨b, off + (k + 1) * 6 + j, none⟩ = some u := fun j u hu => (hB.cell (p := ⟨b, off + (k + 1) * 6 + j, none⟩) Fl).trans (hcB j u hu);have hbr := zL b wr;have hki : (0 : Int) ≤ (k : Int) := by omega
   have aeu : (0 : Int) ≤ (k : Int) + 1 := by omega
   have hkj : (k : Int) + 1 < (n : Int) := by omega
   have aet : (k : Int) < (n : Int) := by omega
   have hwk : IntKind.i64.wrap ((k : Int) + 1 - 1) = (k : Int) := by rw [IntWalk.i64_in _ oM]; omega
   have adV : IntKind.i64.wrap (k : Int) = (k : Int) := IntWalk.i64_in _ oM;have hxb := Hb.out x (List.mem_of_getElem? hz1);have hyb := Hb.out y (List.mem_of_getElem? hz2);have ax := JM hz1;have ay := JM hz2;have Hz1 := aa hz1;have Hz2 := aa hz2;clear hcA hcB hx hy hz1 hz2;have RJ : wr.cell? ⟨b, off + k * 6, none⟩ = some (.int .i64 (x).a) := bx 0 _ rfl;have RI : wr.cell? ⟨b, off + k * 6 + 1, none⟩ = some (.int .i64 (x).o.v) := bx 1 _ rfl;have RH : wr.cell? ⟨b, off + k * 6 + 2, none⟩ = some (.int .u32 (x).o.r) := bx 2 _ rfl;have RG : wr.cell? ⟨b, off + k * 6 + 3, none⟩ = some (.int .u32 (x).o.f) := bx 3 _ rfl;have RF : wr.cell? ⟨b, off + k * 6 + 4, none⟩ = some (.int .i64 (x).n) := bx 4 _ rfl;have RD : wr.cell? ⟨b, off + k * 6 + 5, none⟩ = some (.bool (x).w) := bx 5 _ rfl;have VV : wr.cell? ⟨b, off + (k + 1) * 6, none⟩ = some (.int .i64 (y).a) := bY 0 _ rfl;have VU : wr.cell? ⟨b, off + (k + 1) * 6 + 1, none⟩ = some (.int .i64 (y).o.v) := bY 1 _ rfl;have VT : wr.cell? ⟨b, off + (k + 1) * 6 + 2, none⟩ = some (.int .u32 (y).o.r) := bY 2 _ rfl;have VS : wr.cell? ⟨b, off + (k + 1) * 6 + 3, none⟩ = some (.int .u32 (y).o.f) := bY 3 _ rfl;have VQ : wr.cell? ⟨b, off + (k + 1) * 6 + 4, none⟩ = some (.int .i64 (y).n) := bY 4 _ rfl;have VP : wr.cell? ⟨b, off + (k + 1) * 6 + 5, none⟩ = some (.bool (y).w) := bY 5 _ rfl;clear bx bY;by_cases hq : y.a - x.a < 0
   ·have hf : Hid (d9 es = false) := aa (by
               unfold d9;rw [List.all_eq_false];exact ⟨k, List.mem_range.2 (by rw [Hl.out]; omega), by rw [ax, ay]; simp; omega⟩)
    go_wp2_with fail
    go_region_held3 (fun w' => w'.cell? ⟨b, off + k * 6, none⟩ = some (.int .i64 x.a) ∧ w'.cell? ⟨b, off + k * 6 + 1, none⟩ = some (.int .i64 x.o.v) ∧ w'.cell? ⟨b, off + k * 6 + 2, none⟩ = some (.int .u32 x.o.r) ∧ w'.cell? ⟨b, off + k * 6 + 3, none⟩ = some (.int .u32 x.o.f) ∧ w'.cell? ⟨b, off + k * 6 + 4, none⟩ = some (.int .i64 x.n) ∧ w'.cell? ⟨b, off + k * 6 + 5, none⟩ = some (.bool x.w) ∧ w'.cell? ⟨b, off + (k + 1) * 6, none⟩ = some (.int .i64 y.a) ∧ w'.cell? ⟨b, off + (k + 1) * 6 + 1, none⟩ = some (.int .i64 y.o.v) ∧ w'.cell? ⟨b, off + (k + 1) * 6 + 2, none⟩ = some (.int .u32 y.o.r) ∧ w'.cell? ⟨b, off + (k + 1) * 6 + 3, none⟩ = some (.int .u32 y.o.f) ∧ w'.cell? ⟨b, off + (k + 1) * 6 + 4, none⟩ = some (.int .i64 y.n) ∧ w'.cell? ⟨b, off + (k + 1) * 6 + 5, none⟩ = some (.bool y.w))
               (first | exact ⟨RJ, RI, RH, RG, RF, RD, VV, VU, VT, VS, VQ, VP⟩ | exact ⟨(ar _ _ hbr).trans RJ, (ar _ _ hbr).trans RI, (ar _ _ hbr).trans RH, (ar _ _ hbr).trans RG, (ar _ _ hbr).trans RF, (ar _ _ hbr).trans RD, (ar _ _ hbr).trans VV, (ar _ _ hbr).trans VU, (ar _ _ hbr).trans VT, (ar _ _ hbr).trans VS, (ar _ _ hbr).trans VQ, (ar _ _ hbr).trans VP⟩)
               (first | (go_at_call 60; refine (DV y x _ hyb hxb).mono ?_; rintro e w1 ⟨rfl, i7⟩; have hb1 : Below wr.heap.size wr w1 := si; clear i7; obtain ⟨ar, aA, hs1⟩ := bC hb1; (try simp at hs1)))
    all_goals go_wp2_with fail
    all_goals go_ret
    all_goals exact ⟨by rw [HR.out, hf.out]; rfl, ae⟩
   ·go_wp2_with fail
    go_region_held3 (fun w' => w'.cell? ⟨b, off + k * 6, none⟩ = some (.int .i64 x.a) ∧ w'.cell? ⟨b, off + k * 6 + 1, none⟩ = some (.int .i64 x.o.v) ∧ w'.cell? ⟨b, off + k * 6 + 2, none⟩ = some (.int .u32 x.o.r) ∧ w'.cell? ⟨b, off + k * 6 + 3, none⟩ = some (.int .u32 x.o.f) ∧ w'.cell? ⟨b, off + k * 6 + 4, none⟩ = some (.int .i64 x.n) ∧ w'.cell? ⟨b, off + k * 6 + 5, none⟩ = some (.bool x.w) ∧ w'.cell? ⟨b, off + (k + 1) * 6, none⟩ = some (.int .i64 y.a) ∧ w'.cell? ⟨b, off + (k + 1) * 6 + 1, none⟩ = some (.int .i64 y.o.v) ∧ w'.cell? ⟨b, off + (k + 1) * 6 + 2, none⟩ = some (.int .u32 y.o.r) ∧ w'.cell? ⟨b, off + (k + 1) * 6 + 3, none⟩ = some (.int .u32 y.o.f) ∧ w'.cell? ⟨b, off + (k + 1) * 6 + 4, none⟩ = some (.int .i64 y.n) ∧ w'.cell? ⟨b, off + (k + 1) * 6 + 5, none⟩ = some (.bool y.w))
               (first | exact ⟨RJ, RI, RH, RG, RF, RD, VV, VU, VT, VS, VQ, VP⟩ | exact ⟨(ar _ _ hbr).trans RJ, (ar _ _ hbr).trans RI, (ar _ _ hbr).trans RH, (ar _ _ hbr).trans RG, (ar _ _ hbr).trans RF, (ar _ _ hbr).trans RD, (ar _ _ hbr).trans VV, (ar _ _ hbr).trans VU, (ar _ _ hbr).trans VT, (ar _ _ hbr).trans VS, (ar _ _ hbr).trans VQ, (ar _ _ hbr).trans VP⟩)
               (first | (go_at_call 60; refine (DV y x _ hyb hxb).mono ?_; rintro e w1 ⟨rfl, i7⟩; have hb1 : Below wr.heap.size wr w1 := si; clear i7; obtain ⟨ar, aA, hs1⟩ := bC hb1; (try simp at hs1)))
    all_goals go_wp2_with fail
    all_goals exact ⟨⟨k, by go_num, by omega, by omega, fun j h1 h2 => by
               rcases Nat.lt_or_ge k j with h3 | h3
               ·exact hno j oM h2
               ·obtain rfl : j = k := (by omega);rw [ax, ay]; omega, ae⟩, by simp [intOf]; omega⟩
  ·go_wp2_with fail;go_ret;refine ⟨?_, ae⟩;rw [HR.out];have hf : d9 es = true := by
    unfold d9;rw [List.all_eq_true];intro j hj;rw [List.mem_range, Hl.out] at hj;have := hno j oM hj;simpa using this
   rw [hf];rfl
theorem zx : ∀ (l pre : List En), sW pre l = 0 → ∀ e ∈ l, 0 ≤ e.a ∧ e.a < 4096
 | [], _, _ => by simp
 | x :: l, pre, h => by
  unfold sW at h;by_cases h1 : nW x = 0
  ·rw [if_neg (by simpa using h1)] at h;by_cases h2 : pre.any (fun y => y.a == x.a) = true
   ·rw [if_pos h2] at h;cases h
   ·rw [if_neg h2] at h;intro e he;rcases List.mem_cons.1 he with rfl | he
    ·unfold nW at h1;split at h1
     ·cases h1
     ·omega
    ·exact zx l _ h e he
  ·rw [if_pos h1] at h;exact absurd h h1
theorem fS {es : List En} (h : gF es = 0) : ∀ e ∈ es, 0 ≤ e.a ∧ e.a < 4096 := by
 unfold gF at h;split at h
 ·cases h
 ·split at h
  ·cases h
  ·exact zx es [] h
def aF (T C B who : Int) : Int := if iW T C B who < 0 then -1 else iW T C B who
theorem dC (T C B who : Int) (w : World) (hv : aC T C B) (hs : ai w) (h0 : -1000 ≤ who) (h1 : who ≤ 1000) : Calls Tryz.prog 14 #[(.agg #[.int .i64 T, .int .i64 C, .int .i64 B]), .int .i64 who] w fun e w' => e = .returned (.tuple #[.int .i64 (aF T C B who), .int .i64 (aD T C B who)]) ∧ Below w.heap.size w w' := G4 T C B who w hv hs h0 h1
def eu (T C B who seq st : Int) (es : List En) : Int :=
 if aD T C B who = 0 then 3 else if seq < 1 ∨ 16777215 < seq then 3 else if st < 0 ∨ 3 < st then 2 else if gF es ≠ 0 then gF es else if d9 es = false then 12 else if es.all (fun e => iY T C B e.a) = false then 10 else if aD T C B who < es.length then 15 else 0
theorem UD (T C B who seq st P E : Int) (SS : Bool) (A : Option Addr) (n cap : Nat) (es : List En) (w : World) (hv : aC T C B) (hs : ai w) (h0 : -1000 ≤ who) (h1 : who ≤ 1000) (hr : Rd w w.heap.size 6 A n (es.flatMap ec)) (hl : es.length = n) (hn : n ≤ 1000) (hcap : n ≤ cap) (hc2 : cap ≤ maxLen) (hok : ∀ e ∈ es, e.ok)
  (hP : aD T C B who = 0) (hE : gF es = E) (hS : d9 es = SS)  : Calls Tryz.prog 37 #[(.agg #[.int .i64 who, .int .i64 seq, .int .i64 st, .slice A n cap]), (.agg #[.int .i64 T, .int .i64 C, .int .i64 B])] w (cd (.int .i64 3) w) := by
 have hp := hs.pos;have Hr := aa hr;have Hl := aa hl;have pd := aa hok;have HP := aa hP;have HE := aa hE;have HS := aa hS;clear hr hl hok hP hE hS;go_enter Tryz.func37, Tryz.ntmps37;go_wp2_with (first
  | (go_at_call 18; refine rB (cZ T C B _ hv (hs.below ae)) ?_; intro w1 hb1 ar aA hs1; (try simp at hs1); have hz1 := zL w.heap.size w1; have hy1 := zL (w.heap.size + 1) w1; have hq1 := zL 0 w1)
  | (go_at_call 14; refine (dC T C B who _ hv (hs.below ae) h0 h1).mono ?_; rintro e w2 ⟨rfl, hb2⟩; rw [HP.out]; obtain ⟨aH, aL, hs2⟩ := bC hb2; (try simp at hs2); have hz2 := zL w.heap.size w2; have hy2 := zL (w.heap.size + 1) w2; have hq2 := zL 0 w2)
  | (go_at_call 58; refine (gM A n cap es _ ((Hr.out.below ae).more oM) Hl.out hn hcap hc2 pd.out).mono ?_; rintro e w3 ⟨rfl, hb3⟩; rw [HE.out]; obtain ⟨cN, cH, hs3⟩ := bC hb3; (try simp at hs3); have hz3 := zL w.heap.size w3; have nN := zL (w.heap.size + 1) w3; have hq3 := zL 0 w3)
  | (go_at_call 59; refine (fI A n cap es _ ((Hr.out.below ae).more oM) Hl.out hn (fS HE.out)).mono ?_; rintro e w4 ⟨rfl, hb4⟩; rw [HS.out]; obtain ⟨eB, fZ, hs4⟩ := bC hb4; (try simp at hs4); have iZ := zL w.heap.size w4; have yR := zL (w.heap.size + 1) w4; have hq4 := zL 0 w4))
 go_ret;exact ⟨rfl, ae⟩
theorem Px (T C B who seq st P E : Int) (SS : Bool) (A : Option Addr) (n cap : Nat) (es : List En) (w : World) (hv : aC T C B) (hs : ai w) (h0 : -1000 ≤ who) (h1 : who ≤ 1000) (hr : Rd w w.heap.size 6 A n (es.flatMap ec)) (hl : es.length = n) (hn : n ≤ 1000) (hcap : n ≤ cap) (hc2 : cap ≤ maxLen) (hok : ∀ e ∈ es, e.ok)
  (hP : aD T C B who = P) (hE : gF es = E) (hS : d9 es = SS) (pb : (P == 0) = false) (q : seq < 1) : Calls Tryz.prog 37 #[(.agg #[.int .i64 who, .int .i64 seq, .int .i64 st, .slice A n cap]), (.agg #[.int .i64 T, .int .i64 C, .int .i64 B])] w (cd (.int .i64 3) w) := by
 have hp := hs.pos;have Hr := aa hr;have Hl := aa hl;have pd := aa hok;have HP := aa hP;have HE := aa hE;have HS := aa hS;clear hr hl hok hP hE hS;go_enter Tryz.func37, Tryz.ntmps37;go_wp2_with (first
  | (go_at_call 18; refine rB (cZ T C B _ hv (hs.below ae)) ?_; intro w1 hb1 ar aA hs1; (try simp at hs1); have hz1 := zL w.heap.size w1; have hy1 := zL (w.heap.size + 1) w1; have hq1 := zL 0 w1)
  | (go_at_call 14; refine (dC T C B who _ hv (hs.below ae) h0 h1).mono ?_; rintro e w2 ⟨rfl, hb2⟩; rw [HP.out]; obtain ⟨aH, aL, hs2⟩ := bC hb2; (try simp at hs2); have hz2 := zL w.heap.size w2; have hy2 := zL (w.heap.size + 1) w2; have hq2 := zL 0 w2)
  | (go_at_call 58; refine (gM A n cap es _ ((Hr.out.below ae).more oM) Hl.out hn hcap hc2 pd.out).mono ?_; rintro e w3 ⟨rfl, hb3⟩; rw [HE.out]; obtain ⟨cN, cH, hs3⟩ := bC hb3; (try simp at hs3); have hz3 := zL w.heap.size w3; have nN := zL (w.heap.size + 1) w3; have hq3 := zL 0 w3)
  | (go_at_call 59; refine (fI A n cap es _ ((Hr.out.below ae).more oM) Hl.out hn (fS HE.out)).mono ?_; rintro e w4 ⟨rfl, hb4⟩; rw [HS.out]; obtain ⟨eB, fZ, hs4⟩ := bC hb4; (try simp at hs4); have iZ := zL w.heap.size w4; have yR := zL (w.heap.size + 1) w4; have hq4 := zL 0 w4))
 go_ret;exact ⟨rfl, ae⟩
theorem Pw (T C B who seq st P E : Int) (SS : Bool) (A : Option Addr) (n cap : Nat) (es : List En) (w : World) (hv : aC T C B) (hs : ai w) (h0 : -1000 ≤ who) (h1 : who ≤ 1000) (hr : Rd w w.heap.size 6 A n (es.flatMap ec)) (hl : es.length = n) (hn : n ≤ 1000) (hcap : n ≤ cap) (hc2 : cap ≤ maxLen) (hok : ∀ e ∈ es, e.ok)
  (hP : aD T C B who = P) (hE : gF es = E) (hS : d9 es = SS) (pb : (P == 0) = false) (q : 16777215 < seq) : Calls Tryz.prog 37 #[(.agg #[.int .i64 who, .int .i64 seq, .int .i64 st, .slice A n cap]), (.agg #[.int .i64 T, .int .i64 C, .int .i64 B])] w (cd (.int .i64 3) w) := by
 have hp := hs.pos;have Hr := aa hr;have Hl := aa hl;have pd := aa hok;have HP := aa hP;have HE := aa hE;have HS := aa hS;clear hr hl hok hP hE hS;have q0 : ¬ seq < 1 := by omega
 go_enter Tryz.func37, Tryz.ntmps37;go_wp2_with (first
  | (go_at_call 18; refine rB (cZ T C B _ hv (hs.below ae)) ?_; intro w1 hb1 ar aA hs1; (try simp at hs1); have hz1 := zL w.heap.size w1; have hy1 := zL (w.heap.size + 1) w1; have hq1 := zL 0 w1)
  | (go_at_call 14; refine (dC T C B who _ hv (hs.below ae) h0 h1).mono ?_; rintro e w2 ⟨rfl, hb2⟩; rw [HP.out]; obtain ⟨aH, aL, hs2⟩ := bC hb2; (try simp at hs2); have hz2 := zL w.heap.size w2; have hy2 := zL (w.heap.size + 1) w2; have hq2 := zL 0 w2)
  | (go_at_call 58; refine (gM A n cap es _ ((Hr.out.below ae).more oM) Hl.out hn hcap hc2 pd.out).mono ?_; rintro e w3 ⟨rfl, hb3⟩; rw [HE.out]; obtain ⟨cN, cH, hs3⟩ := bC hb3; (try simp at hs3); have hz3 := zL w.heap.size w3; have nN := zL (w.heap.size + 1) w3; have hq3 := zL 0 w3)
  | (go_at_call 59; refine (fI A n cap es _ ((Hr.out.below ae).more oM) Hl.out hn (fS HE.out)).mono ?_; rintro e w4 ⟨rfl, hb4⟩; rw [HS.out]; obtain ⟨eB, fZ, hs4⟩ := bC hb4; (try simp at hs4); have iZ := zL w.heap.size w4; have yR := zL (w.heap.size + 1) w4; have hq4 := zL 0 w4))
 go_ret;exact ⟨rfl, ae⟩
theorem Pv (T C B who seq st P E : Int) (SS : Bool) (A : Option Addr) (n cap : Nat) (es : List En) (w : World) (hv : aC T C B) (hs : ai w) (h0 : -1000 ≤ who) (h1 : who ≤ 1000) (hr : Rd w w.heap.size 6 A n (es.flatMap ec)) (hl : es.length = n) (hn : n ≤ 1000) (hcap : n ≤ cap) (hc2 : cap ≤ maxLen) (hok : ∀ e ∈ es, e.ok)
  (hP : aD T C B who = P) (hE : gF es = E) (hS : d9 es = SS) (pb : (P == 0) = false) (qa : 1 ≤ seq) (qb : seq ≤ 16777215) (q : st < 0) : Calls Tryz.prog 37 #[(.agg #[.int .i64 who, .int .i64 seq, .int .i64 st, .slice A n cap]), (.agg #[.int .i64 T, .int .i64 C, .int .i64 B])] w (cd (.int .i64 2) w) := by
 have hp := hs.pos;have Hr := aa hr;have Hl := aa hl;have pd := aa hok;have HP := aa hP;have HE := aa hE;have HS := aa hS;clear hr hl hok hP hE hS;go_enter Tryz.func37, Tryz.ntmps37;go_wp2_with (first
  | (go_at_call 18; refine rB (cZ T C B _ hv (hs.below ae)) ?_; intro w1 hb1 ar aA hs1; (try simp at hs1); have hz1 := zL w.heap.size w1; have hy1 := zL (w.heap.size + 1) w1; have hq1 := zL 0 w1)
  | (go_at_call 14; refine (dC T C B who _ hv (hs.below ae) h0 h1).mono ?_; rintro e w2 ⟨rfl, hb2⟩; rw [HP.out]; obtain ⟨aH, aL, hs2⟩ := bC hb2; (try simp at hs2); have hz2 := zL w.heap.size w2; have hy2 := zL (w.heap.size + 1) w2; have hq2 := zL 0 w2)
  | (go_at_call 58; refine (gM A n cap es _ ((Hr.out.below ae).more oM) Hl.out hn hcap hc2 pd.out).mono ?_; rintro e w3 ⟨rfl, hb3⟩; rw [HE.out]; obtain ⟨cN, cH, hs3⟩ := bC hb3; (try simp at hs3); have hz3 := zL w.heap.size w3; have nN := zL (w.heap.size + 1) w3; have hq3 := zL 0 w3)
  | (go_at_call 59; refine (fI A n cap es _ ((Hr.out.below ae).more oM) Hl.out hn (fS HE.out)).mono ?_; rintro e w4 ⟨rfl, hb4⟩; rw [HS.out]; obtain ⟨eB, fZ, hs4⟩ := bC hb4; (try simp at hs4); have iZ := zL w.heap.size w4; have yR := zL (w.heap.size + 1) w4; have hq4 := zL 0 w4))
 go_ret;exact ⟨rfl, ae⟩
theorem Pu (T C B who seq st P E : Int) (SS : Bool) (A : Option Addr) (n cap : Nat) (es : List En) (w : World) (hv : aC T C B) (hs : ai w) (h0 : -1000 ≤ who) (h1 : who ≤ 1000) (hr : Rd w w.heap.size 6 A n (es.flatMap ec)) (hl : es.length = n) (hn : n ≤ 1000) (hcap : n ≤ cap) (hc2 : cap ≤ maxLen) (hok : ∀ e ∈ es, e.ok)
  (hP : aD T C B who = P) (hE : gF es = E) (hS : d9 es = SS) (pb : (P == 0) = false) (qa : 1 ≤ seq) (qb : seq ≤ 16777215) (q : 3 < st) : Calls Tryz.prog 37 #[(.agg #[.int .i64 who, .int .i64 seq, .int .i64 st, .slice A n cap]), (.agg #[.int .i64 T, .int .i64 C, .int .i64 B])] w (cd (.int .i64 2) w) := by
 have hp := hs.pos;have Hr := aa hr;have Hl := aa hl;have pd := aa hok;have HP := aa hP;have HE := aa hE;have HS := aa hS;clear hr hl hok hP hE hS;have q0 : ¬ st < 0 := by omega
 go_enter Tryz.func37, Tryz.ntmps37;go_wp2_with (first
  | (go_at_call 18; refine rB (cZ T C B _ hv (hs.below ae)) ?_; intro w1 hb1 ar aA hs1; (try simp at hs1); have hz1 := zL w.heap.size w1; have hy1 := zL (w.heap.size + 1) w1; have hq1 := zL 0 w1)
  | (go_at_call 14; refine (dC T C B who _ hv (hs.below ae) h0 h1).mono ?_; rintro e w2 ⟨rfl, hb2⟩; rw [HP.out]; obtain ⟨aH, aL, hs2⟩ := bC hb2; (try simp at hs2); have hz2 := zL w.heap.size w2; have hy2 := zL (w.heap.size + 1) w2; have hq2 := zL 0 w2)
  | (go_at_call 58; refine (gM A n cap es _ ((Hr.out.below ae).more oM) Hl.out hn hcap hc2 pd.out).mono ?_; rintro e w3 ⟨rfl, hb3⟩; rw [HE.out]; obtain ⟨cN, cH, hs3⟩ := bC hb3; (try simp at hs3); have hz3 := zL w.heap.size w3; have nN := zL (w.heap.size + 1) w3; have hq3 := zL 0 w3)
  | (go_at_call 59; refine (fI A n cap es _ ((Hr.out.below ae).more oM) Hl.out hn (fS HE.out)).mono ?_; rintro e w4 ⟨rfl, hb4⟩; rw [HS.out]; obtain ⟨eB, fZ, hs4⟩ := bC hb4; (try simp at hs4); have iZ := zL w.heap.size w4; have yR := zL (w.heap.size + 1) w4; have hq4 := zL 0 w4))
 go_ret;exact ⟨rfl, ae⟩
theorem UG (T C B who seq st P E : Int) (SS : Bool) (A : Option Addr) (n cap : Nat) (es : List En) (w : World) (hv : aC T C B) (hs : ai w) (h0 : -1000 ≤ who) (h1 : who ≤ 1000) (hr : Rd w w.heap.size 6 A n (es.flatMap ec)) (hl : es.length = n) (hn : n ≤ 1000) (hcap : n ≤ cap) (hc2 : cap ≤ maxLen) (hok : ∀ e ∈ es, e.ok)
  (hP : aD T C B who = P) (hE : gF es = E) (hS : d9 es = SS) (pb : (P == 0) = false) (qa : 1 ≤ seq) (qb : seq ≤ 16777215) (sa : 0 ≤ st) (sb : st ≤ 3) (q : (E != 0) = true) : Calls Tryz.prog 37 #[(.agg #[.int .i64 who, .int .i64 seq, .int .i64 st, .slice A n cap]), (.agg #[.int .i64 T, .int .i64 C, .int .i64 B])] w (cd (.int .i64 E) w) := by
 have hp := hs.pos;have Hr := aa hr;have Hl := aa hl;have pd := aa hok;have HP := aa hP;have HE := aa hE;have HS := aa hS;clear hr hl hok hP hE hS;go_enter Tryz.func37, Tryz.ntmps37;go_wp2_with (first
  | (go_at_call 18; refine rB (cZ T C B _ hv (hs.below ae)) ?_; intro w1 hb1 ar aA hs1; (try simp at hs1); have hz1 := zL w.heap.size w1; have hy1 := zL (w.heap.size + 1) w1; have hq1 := zL 0 w1)
  | (go_at_call 14; refine (dC T C B who _ hv (hs.below ae) h0 h1).mono ?_; rintro e w2 ⟨rfl, hb2⟩; rw [HP.out]; obtain ⟨aH, aL, hs2⟩ := bC hb2; (try simp at hs2); have hz2 := zL w.heap.size w2; have hy2 := zL (w.heap.size + 1) w2; have hq2 := zL 0 w2)
  | (go_at_call 58; refine (gM A n cap es _ ((Hr.out.below ae).more oM) Hl.out hn hcap hc2 pd.out).mono ?_; rintro e w3 ⟨rfl, hb3⟩; rw [HE.out]; obtain ⟨cN, cH, hs3⟩ := bC hb3; (try simp at hs3); have hz3 := zL w.heap.size w3; have nN := zL (w.heap.size + 1) w3; have hq3 := zL 0 w3)
  | (go_at_call 59; refine (fI A n cap es _ ((Hr.out.below ae).more oM) Hl.out hn (fS HE.out)).mono ?_; rintro e w4 ⟨rfl, hb4⟩; rw [HS.out]; obtain ⟨eB, fZ, hs4⟩ := bC hb4; (try simp at hs4); have iZ := zL w.heap.size w4; have yR := zL (w.heap.size + 1) w4; have hq4 := zL 0 w4))
 go_ret;exact ⟨rfl, ae⟩
theorem UE (T C B who seq st P E : Int) (SS : Bool) (A : Option Addr) (n cap : Nat) (es : List En) (w : World) (hv : aC T C B) (hs : ai w) (h0 : -1000 ≤ who) (h1 : who ≤ 1000) (hr : Rd w w.heap.size 6 A n (es.flatMap ec)) (hl : es.length = n) (hn : n ≤ 1000) (hcap : n ≤ cap) (hc2 : cap ≤ maxLen) (hok : ∀ e ∈ es, e.ok)
  (hP : aD T C B who = P) (hE : gF es = 0) (hS : d9 es = false) (pb : (P == 0) = false) (qa : 1 ≤ seq) (qb : seq ≤ 16777215) (sa : 0 ≤ st) (sb : st ≤ 3)  : Calls Tryz.prog 37 #[(.agg #[.int .i64 who, .int .i64 seq, .int .i64 st, .slice A n cap]), (.agg #[.int .i64 T, .int .i64 C, .int .i64 B])] w (cd (.int .i64 12) w) := by
 have hp := hs.pos;have Hr := aa hr;have Hl := aa hl;have pd := aa hok;have HP := aa hP;have HE := aa hE;have HS := aa hS;clear hr hl hok hP hE hS;go_enter Tryz.func37, Tryz.ntmps37;go_wp2_with (first
  | (go_at_call 18; refine rB (cZ T C B _ hv (hs.below ae)) ?_; intro w1 hb1 ar aA hs1; (try simp at hs1); have hz1 := zL w.heap.size w1; have hy1 := zL (w.heap.size + 1) w1; have hq1 := zL 0 w1)
  | (go_at_call 14; refine (dC T C B who _ hv (hs.below ae) h0 h1).mono ?_; rintro e w2 ⟨rfl, hb2⟩; rw [HP.out]; obtain ⟨aH, aL, hs2⟩ := bC hb2; (try simp at hs2); have hz2 := zL w.heap.size w2; have hy2 := zL (w.heap.size + 1) w2; have hq2 := zL 0 w2)
  | (go_at_call 58; refine (gM A n cap es _ ((Hr.out.below ae).more oM) Hl.out hn hcap hc2 pd.out).mono ?_; rintro e w3 ⟨rfl, hb3⟩; rw [HE.out]; obtain ⟨cN, cH, hs3⟩ := bC hb3; (try simp at hs3); have hz3 := zL w.heap.size w3; have nN := zL (w.heap.size + 1) w3; have hq3 := zL 0 w3)
  | (go_at_call 59; refine (fI A n cap es _ ((Hr.out.below ae).more oM) Hl.out hn (fS HE.out)).mono ?_; rintro e w4 ⟨rfl, hb4⟩; rw [HS.out]; obtain ⟨eB, fZ, hs4⟩ := bC hb4; (try simp at hs4); have iZ := zL w.heap.size w4; have yR := zL (w.heap.size + 1) w4; have hq4 := zL 0 w4))
 go_ret;exact ⟨rfl, ae⟩
theorem UF (T C B who seq st P E : Int) (SS : Bool) (A : Option Addr) (n cap : Nat) (es : List En) (w : World) (hv : aC T C B) (hs : ai w) (h0 : -1000 ≤ who) (h1 : who ≤ 1000) (hr : Rd w w.heap.size 6 A n (es.flatMap ec)) (hl : es.length = n) (hn : n ≤ 1000) (hcap : n ≤ cap) (hc2 : cap ≤ maxLen) (hok : ∀ e ∈ es, e.ok)
  (hP : aD T C B who = P) (hE : gF es = 0) (hS : d9 es = true) (pb : (P == 0) = false) (qa : 1 ≤ seq) (qb : seq ≤ 16777215) (sa : 0 ≤ st) (sb : st ≤ 3) (R : Int) (hR : R = if es.all (fun e => iY T C B e.a) = false then 10 else if P < n then 15 else 0) : Calls Tryz.prog 37 #[(.agg #[.int .i64 who, .int .i64 seq, .int .i64 st, .slice A n cap]), (.agg #[.int .i64 T, .int .i64 C, .int .i64 B])] w (cd (.int .i64 R) w) := by
 have hp := hs.pos;have Hr := aa hr;have Hl := aa hl;have pd := aa hok;have HP := aa hP;have HE := aa hE;have HS := aa hS;clear hr hl hok hP hE hS;have HR := aa hR;clear hR;go_enter Tryz.func37, Tryz.ntmps37;go_wp2_with (first
  | (go_at_call 18; refine rB (cZ T C B _ hv (hs.below ae)) ?_; intro w1 hb1 ar aA hs1; (try simp at hs1); have hz1 := zL w.heap.size w1; have hy1 := zL (w.heap.size + 1) w1; have hq1 := zL 0 w1)
  | (go_at_call 14; refine (dC T C B who _ hv (hs.below ae) h0 h1).mono ?_; rintro e w2 ⟨rfl, hb2⟩; rw [HP.out]; obtain ⟨aH, aL, hs2⟩ := bC hb2; (try simp at hs2); have hz2 := zL w.heap.size w2; have hy2 := zL (w.heap.size + 1) w2; have hq2 := zL 0 w2)
  | (go_at_call 58; refine (gM A n cap es _ ((Hr.out.below ae).more oM) Hl.out hn hcap hc2 pd.out).mono ?_; rintro e w3 ⟨rfl, hb3⟩; rw [HE.out]; obtain ⟨cN, cH, hs3⟩ := bC hb3; (try simp at hs3); have hz3 := zL w.heap.size w3; have nN := zL (w.heap.size + 1) w3; have hq3 := zL 0 w3)
  | (go_at_call 59; refine (fI A n cap es _ ((Hr.out.below ae).more oM) Hl.out hn (fS HE.out)).mono ?_; rintro e w4 ⟨rfl, hb4⟩; rw [HS.out]; obtain ⟨eB, fZ, hs4⟩ := bC hb4; (try simp at hs4); have iZ := zL w.heap.size w4; have yR := zL (w.heap.size + 1) w4; have hq4 := zL 0 w4))
 have d3 := cE w4 w.heap.size 3 (.slice A n cap);have e0 := cI w4 (w.heap.size + 1) 0 T;have e1 := cI w4 (w.heap.size + 1) 1 C;have e2 := cI w4 (w.heap.size + 1) 2 B;have hB4 : Below w.heap.size w w4 := ae;have SI := hs.below hB4;have Hr4 := aa ((Hr.out.below hB4).more hB4.size);have hbd := fS HE.out;have QJ := aa hbd;clear hbd ar aA aH aL cN cH eB fZ hb1 hb2 hb3 hb4
 go_loopw [54] (fun i wr => ∃ k : Nat, i = .int .i64 k ∧ k ≤ n ∧ (es.take k).all (fun e => iY T C B e.a) = true ∧ Below w4.heap.size w4 wr) (fun i _ => n - (intOf i).toNat)
 case atStart => exact ⟨0, rfl, by omega, rfl, ae⟩
 case round =>
  obtain ⟨k, rfl, hk, hno, hB⟩ := hrel;have hsz := hB.size;have hBw : Below w.heap.size w wr := hB4.trans (hB.mono hB4.size);have d3r : wr.cell? ⟨w.heap.size, 3, none⟩ = some (.slice A n cap) := cT hB d3 iZ;have e0r : wr.cell? ⟨w.heap.size + 1, 0, none⟩ = some (.int .i64 T) := cT hB e0 yR;have e1r : wr.cell? ⟨w.heap.size + 1, 1, none⟩ = some (.int .i64 C) := cT hB e1 yR;have e2r : wr.cell? ⟨w.heap.size + 1, 2, none⟩ = some (.int .i64 B) := cT hB e2 yR;have rO := zL w.heap.size wr;have rR := zL (w.heap.size + 1) wr;by_cases hlt : k < n
  ·have hz1 : es[k]? = some (es[k]'(by rw [Hl.out]; omega)) := List.getElem?_eq_getElem _;obtain ⟨b, off, rfl, Fl, hcA⟩ := Hr4.out.elem (fun _ => rfl) hlt hz1;obtain ⟨e, he⟩ : ∃ e, e = es[k]'(by rw [Hl.out]; omega) := ⟨_, rfl⟩;rw [← he] at hcA hz1;have bx : ∀ j u, (ec e)[j]? = some u → wr.cell? ⟨b, off + k * 6 + j, none⟩ = some u := fun j u hu => (hB.cell (p := ⟨b, off + k * 6 + j, none⟩) Fl).trans (hcA j u hu);have hbr := zL b wr;have hki : (0 : Int) ≤ (k : Int) := by omega
   have hkj : (k : Int) < (n : Int) := by omega
   have hbe := QJ.out e (List.mem_of_getElem? hz1);have pL : es.take (k + 1) = es.take k ++ [e] := by rw [List.take_add_one, hz1]; rfl
   have Kw := aa pL;have Ou := SI.below hB;have hmem := aa (List.mem_of_getElem? hz1);have RJ : wr.cell? ⟨b, off + k * 6, none⟩ = some (.int .i64 (e).a) := bx 0 _ rfl;have RI : wr.cell? ⟨b, off + k * 6 + 1, none⟩ = some (.int .i64 (e).o.v) := bx 1 _ rfl;have RH : wr.cell? ⟨b, off + k * 6 + 2, none⟩ = some (.int .u32 (e).o.r) := bx 2 _ rfl;have RG : wr.cell? ⟨b, off + k * 6 + 3, none⟩ = some (.int .u32 (e).o.f) := bx 3 _ rfl;have RF : wr.cell? ⟨b, off + k * 6 + 4, none⟩ = some (.int .i64 (e).n) := bx 4 _ rfl;have RD : wr.cell? ⟨b, off + k * 6 + 5, none⟩ = some (.bool (e).w) := bx 5 _ rfl;clear hcA bx he pL hz1;cases hq : iY T C B e.a with
   | true =>
    go_wp2_with (first | (go_at_call 44; refine (tZ T C B e.a _ hv (Ou.below ae) oM oM).mono ?_; rintro e' w5 ⟨rfl, hb5⟩; rw [hq]));exact ⟨⟨k + 1, by go_num, by omega, by rw [Kw.out, List.all_append, hno]; simp [hq], ae⟩, by simp [intOf]; omega⟩
   | false =>
    go_wp2_with (first | (go_at_call 44; refine (tZ T C B e.a _ hv (Ou.below ae) oM oM).mono ?_; rintro e' w5 ⟨rfl, hb5⟩; rw [hq]));go_ret;have hf : es.all (fun e => iY T C B e.a) = false := by
     rw [List.all_eq_false];exact ⟨e, hmem.out, by rw [hq]; simp⟩
    exact ⟨by rw [HR.out, if_pos hf]; rfl, ae⟩
  ·obtain rfl : n = k := by omega
   have hf : Hid (es.all (fun e => iY T C B e.a) = true) := aa (by rw [List.take_of_length_le (by rw [Hl.out]; exact Nat.le_refl _)] at hno; exact hno);by_cases hm : P < (n : Int)
   ·go_wp2_with fail;go_ret;exact ⟨by rw [HR.out, hf.out, if_neg sM, if_pos hm]; rfl, ae⟩
   ·go_wp2_with fail;go_ret;exact ⟨by rw [HR.out, hf.out, if_neg sM, if_neg oM]; rfl, ae⟩
theorem oP (T C B who seq st : Int) (A : Option Addr) (n cap : Nat) (es : List En) (w : World) (hv : aC T C B) (hs : ai w) (h0 : -1000 ≤ who) (h1 : who ≤ 1000) (hr : Rd w w.heap.size 6 A n (es.flatMap ec)) (hl : es.length = n) (hn : n ≤ 1000) (hcap : n ≤ cap) (hc2 : cap ≤ maxLen) (hok : ∀ e ∈ es, e.ok) :
  Calls Tryz.prog 37 #[(.agg #[.int .i64 who, .int .i64 seq, .int .i64 st, .slice A n cap]), (.agg #[.int .i64 T, .int .i64 C, .int .i64 B])] w (cd (.int .i64 (eu T C B who seq st es)) w) := by
 unfold eu;by_cases hP : aD T C B who = 0
 ·rw [if_pos hP];exact UD T C B who seq st 0 _ _ A n cap es w hv hs h0 h1 hr hl hn hcap hc2 hok hP rfl rfl
 rw [if_neg hP];have pb : (aD T C B who == 0) = false := by simpa using hP
 by_cases q1 : seq < 1
 ·rw [if_pos (Or.inl q1)];exact Px T C B who seq st _ _ _ A n cap es w hv hs h0 h1 hr hl hn hcap hc2 hok rfl rfl rfl pb q1
 by_cases q2 : 16777215 < seq
 ·rw [if_pos (Or.inr q2)];exact Pw T C B who seq st _ _ _ A n cap es w hv hs h0 h1 hr hl hn hcap hc2 hok rfl rfl rfl pb q2
 rw [if_neg oM];by_cases s1 : st < 0
 ·rw [if_pos (Or.inl s1)];exact Pv T C B who seq st _ _ _ A n cap es w hv hs h0 h1 hr hl hn hcap hc2 hok rfl rfl rfl pb oM oM s1
 by_cases s2 : 3 < st
 ·rw [if_pos (Or.inr s2)];exact Pu T C B who seq st _ _ _ A n cap es w hv hs h0 h1 hr hl hn hcap hc2 hok rfl rfl rfl pb oM oM s2
 rw [if_neg oM];by_cases hE : gF es = 0
 ·rw [if_neg (by simpa using hE)];cases hS : d9 es with
  | false =>
   rw [if_pos rfl];exact UE T C B who seq st _ 0 true A n cap es w hv hs h0 h1 hr hl hn hcap hc2 hok rfl hE hS pb oM oM oM oM
  | true =>
   rw [if_neg sM];exact UF T C B who seq st _ 0 true A n cap es w hv hs h0 h1 hr hl hn hcap hc2 hok rfl hE hS pb oM oM oM oM _ (by rw [hl])
 ·rw [if_pos hE];exact UG T C B who seq st _ _ _ A n cap es w hv hs h0 h1 hr hl hn hcap hc2 hok rfl rfl rfl pb oM oM oM oM (by simpa using hE)
end Go.Proofs.YtapjfhbonfehpaaGreatDoor
