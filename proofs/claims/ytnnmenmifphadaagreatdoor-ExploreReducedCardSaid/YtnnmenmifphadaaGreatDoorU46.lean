/- Package word: Ref, Who, kind and Text at any word. -/
import Derived.Lib.ItoaLen
import Derived.Test.YtnnmenmifphadaaGreatDoorU44
set_option linter.unusedSimpArgs false
set_option linter.unusedVariables false
set_option maxRecDepth 100000
set_option maxHeartbeats 40000000
namespace Go.Proofs.YtnnmenmifphadaaGreatDoor
open Go.RowKit Go.Maps Go.Sort
theorem word_ref_ok (h s : Int) (w : World) (h1 : 1 ≤ h) (h2 : h ≤ 72) (s1 : 1 ≤ s) (s2 : s ≤ 16777215) : Calls Tryz.prog 118 #[.int .i64 h, .int .i64 s] w fun e w' => (∃ x : Int, e = .returned (.tuple #[.int .u32 x, .int .i64 0])) ∧ w' = w := by
 have a1 : ¬ (h < 1) := by omega
 have a2 : ¬ (h > 72) := by omega
 have a2' : ¬ (72 < h) := by omega
 have a3 : ¬ (s < 1) := by omega
 have a4 : ¬ (s > 16777215) := by omega
 have a4' : ¬ (16777215 < s) := by omega
 go_enter Tryz.func118, Tryz.ntmps118
 go_wp2_with fail
 go_ret2
 exact ⟨⟨_, rfl⟩, rfl⟩
theorem word_ref_no (h s : Int) (w : World) (hh : h < 1 ∨ 72 < h ∨ s < 1) (h0 : 0 ≤ h) (s0 : 0 ≤ s) : Calls Tryz.prog 118 #[.int .i64 h, .int .i64 s] w fun e w' => e = .returned (.tuple #[.int .u32 0, .int .i64 3]) ∧ w' = w := by
 by_cases a1 : h < 1
 ·clear hh
  go_enter Tryz.func118, Tryz.ntmps118
  go_wp2_with fail
  exact bodyPost_ret (v := .tuple #[.int .u32 0, .int .i64 3]) (by simp [results, Tryz.results118, go_sem]) rfl ⟨rfl, rfl⟩
 ·by_cases a2 : 72 < h
  ·have a2' : h > 72 := a2
   clear hh
   go_enter Tryz.func118, Tryz.ntmps118
   go_wp2_with fail
   exact bodyPost_ret (v := .tuple #[.int .u32 0, .int .i64 3]) (by simp [results, Tryz.results118, go_sem]) rfl ⟨rfl, rfl⟩
  ·have a3 : s < 1 := by omega
   have a2' : ¬ (h > 72) := a2
   clear hh
   go_enter Tryz.func118, Tryz.ntmps118
   go_wp2_with fail
   exact bodyPost_ret (v := .tuple #[.int .u32 0, .int .i64 3]) (by simp [results, Tryz.results118, go_sem]) rfl ⟨rfl, rfl⟩
theorem and24 (n : Nat) (hn : n < 4294967296) : bits .and .u32 (n : Int) 16777215 = ((n % 16777216 : Nat) : Int) := by
 have q := u32_and_nat n 16777215 hn dM
 rw [show ((16777215 : Nat) : Int) = 16777215 from rfl] at q
 rw [q, show (16777215 : Nat) = 2 ^ 24 - 1 from rfl, Nat.and_two_pow_sub_one_eq_mod]
theorem word_who (f : Int) (w : World) (f0 : 0 ≤ f) (f1 : f < 4294967296) : Calls Tryz.prog 72 #[.int .u32 f] w fun e w' => e = .returned (.tuple #[.int .i64 (whoP f).1, .int .i64 (whoP f).2]) ∧ w' = w := by
 obtain ⟨n, rfl⟩ : ∃ n : Nat, f = n := ⟨f.toNat, by omega⟩
 have ha := and24 n oM
 obtain ⟨h, hh⟩ : ∃ h : Int, (n : Int) / 16777216 = h := ⟨_, rfl⟩
 obtain ⟨s, hs⟩ : ∃ s : Int, ((n % 16777216 : Nat) : Int) = s := ⟨_, rfl⟩
 rw [hs] at ha
 have hb : 0 ≤ h ∧ h < 256 := by omega
 have sb : 0 ≤ s ∧ s ≤ 16777215 := by omega
 have hw1 : IntKind.i64.wrap h = h := IntWalk.i64_in _ oM
 have hw2 : IntKind.i64.wrap s = s := IntWalk.i64_in _ oM
 have hp : whoP (n : Int) = if 1 ≤ h ∧ h ≤ 72 ∧ 1 ≤ s then (h, s) else (0, 0) := by
  unfold whoP
  rw [show (n : Int) % 16777216 = s by omega, hh]
 rw [hp]
 by_cases hg : 1 ≤ h ∧ h ≤ 72 ∧ 1 ≤ s
 ·rw [if_pos hg]
  have Hr := hide (fun W => word_ref_ok h s W hg.1 hg.2.1 hg.2.2 sb.2)
  clear hg hb sb hp hs f0 f1
  go_enter Tryz.func72, Tryz.ntmps72
  go_wp2_with (first
   | (go_at_call 118; refine (Hr.out _).mono ?_; rintro e w1 ⟨⟨x, rfl⟩, rfl⟩))
  exact bodyPost_ret (v := .tuple #[.int .i64 h, .int .i64 s]) (by simp [results, Tryz.results72, go_sem]) rfl ⟨rfl, rfl⟩
 ·rw [if_neg hg]
  have Hr := hide (fun W => word_ref_no h s W oM hb.1 sb.1)
  clear hg hb sb hp hs f0 f1
  go_enter Tryz.func72, Tryz.ntmps72
  go_wp2_with (first
   | (go_at_call 118; refine (Hr.out _).mono ?_; rintro e w1 ⟨rfl, rfl⟩))
  exact bodyPost_ret (v := .tuple #[.int .i64 0, .int .i64 0]) (by simp [results, Tryz.results72, go_sem]) rfl ⟨rfl, rfl⟩
def kindP (f : Int) : Int := if f = 0 then 0 else if 0 < (whoP f).1 then 1 else 2
theorem word_kind (x : W3) (w : World) (hx : x.okW) : Calls Tryz.prog 69 #[(w3V x)] w (Ret (.int .i64 (kindP x.f)) w) := by
 try unfold w3V
 obtain ⟨v, r, f⟩ := x
 obtain ⟨-, -, f0, f1⟩ := hx
 simp only at f0 f1 ⊢
 have hwho := fun W => word_who f W f0 oM
 obtain ⟨h, s, hp⟩ : ∃ h s, whoP f = (h, s) := ⟨_, _, rfl⟩
 unfold kindP
 rw [hp] at hwho ⊢
 simp only at hwho ⊢
 have Hwho := hide hwho
 clear hwho hp f0 f1
 by_cases e0 : f = 0
 ·subst e0
  rw [if_pos rfl]
  go_enter Tryz.func69, Tryz.ntmps69
  go_wp2_with (first
   | (go_at_call 72; refine (Hwho.out _).mono ?_; rintro e w1 ⟨rfl, rfl⟩))
  go_ret
  exact ⟨rfl, ab0⟩
 ·rw [if_neg e0]
  have e1 : (f == 0) = false := by simpa using e0
  by_cases e2 : 0 < h
  ·rw [if_pos e2]
   have e3 : h > 0 := e2
   go_enter Tryz.func69, Tryz.ntmps69
   go_wp2_with (first
    | (go_at_call 72; refine (Hwho.out _).mono ?_; rintro e w1 ⟨rfl, rfl⟩))
   go_ret
   exact ⟨rfl, ab0⟩
  ·rw [if_neg e2]
   have e3 : ¬ (h > 0) := e2
   go_enter Tryz.func69, Tryz.ntmps69
   go_wp2_with (first
    | (go_at_call 72; refine (Hwho.out _).mono ?_; rintro e w1 ⟨rfl, rfl⟩))
   go_ret
   exact ⟨rfl, ab0⟩
theorem whoP_in (f : Int) (f0 : 0 ≤ f) (f1 : f < 4294967296) : (0 ≤ (whoP f).1 ∧ (whoP f).1 ≤ 72) ∧ 0 ≤ (whoP f).2 ∧ (whoP f).2 ≤ 16777215 := by
 unfold whoP
 split
 ·simp only
  omega
 ·simp
theorem itoa_at (z : Int) (h0 : -9223372036854775808 ≤ z) (h1 : z ≤ 9223372036854775807) (w : World) (htab : Tab w) : Calls Tryz.prog 73 #[.int .i64 z] w (Ret (.string ⟨(Lib.itoa z).toArray⟩) w) := by
 refine (Tryz.strconv_Itoa z h0 h1 w htab).mono ?_
 rintro e w' ⟨he, k, os, rfl⟩
 exact ⟨he, Lib.below_grow _ _ (Nat.le_refl _) _ _⟩
theorem textW_eq (x : W3) {S R H Q : List UInt8} {h s : Int} (eS : Lib.itoa x.v = S) (eR : Lib.itoa x.r = R) (ep : whoP x.f = (h, s)) (eH : Lib.itoa h = H) (eQ : Lib.itoa s = Q) : textW x = if x.f ≠ 0 ∧ h ≤ 0 then [] else S ++ (if x.r ≠ 0 ∨ x.f ≠ 0 then [46] ++ R else []) ++ (if x.f ≠ 0 then [35] ++ H ++ [58] ++ Q else []) := by
 unfold textW
 rw [ep, eS, eR]
 simp only
 rw [eH, eQ]
theorem text_any (x : W3) (w : World) (hx : x.okW) (htab : Tab w) (hg0 : 0 < w.heap.size) :
  Calls Tryz.prog 33 #[(w3V x)] w (Ret (.string ⟨(textW x).toArray⟩) w) := by
 try unfold w3V
 have hk := fun W => word_kind x W hx
 obtain ⟨⟨v0, v1⟩, ⟨r0, r1⟩, f0, f1⟩ := hx
 have hT := fun W (hW : Below w.heap.size w W) => htab.below (N := w.heap.size) hW hg0
 have hi := fun W (hW : Below w.heap.size w W) => fmt_int x.v W v0 v1 (hT W hW)
 have hu := fun W (hW : Below w.heap.size w W) => fmt_uint x.r r0 oM W (hT W hW)
 have hwho := fun W => word_who x.f W f0 oM
 obtain ⟨⟨p0, p1⟩, p2, p3⟩ := whoP_in x.f f0 oM
 have hhh := fun W (hW : Below w.heap.size w W) => itoa_at (whoP x.f).1 oM oM W (hT W hW)
 have hqq := fun W (hW : Below w.heap.size w W) => itoa_at (whoP x.f).2 oM oM W (hT W hW)
 have lS := Lib.itoa_length_le x.v v0 v1
 have lR := Lib.itoa_length_le x.r oM oM
 have lH := Lib.itoa_length_le (whoP x.f).1 oM oM
 have lQ := Lib.itoa_length_le (whoP x.f).2 oM oM
 obtain ⟨⟨h, s⟩, ep⟩ : ∃ p, whoP x.f = p := ⟨_, rfl⟩
 unfold kindP at hk
 rw [ep] at hwho hhh hqq lH lQ hk
 simp only at hwho hhh hqq lH lQ hk
 obtain ⟨S, eS⟩ : ∃ S, Lib.itoa x.v = S := ⟨_, rfl⟩
 obtain ⟨R, eR⟩ : ∃ R, Lib.itoa x.r = R := ⟨_, rfl⟩
 obtain ⟨H, eH⟩ : ∃ H, Lib.itoa h = H := ⟨_, rfl⟩
 obtain ⟨Q, eQ⟩ : ∃ Q, Lib.itoa s = Q := ⟨_, rfl⟩
 rw [textW_eq x eS eR ep eH eQ]
 rw [eS] at hi lS
 rw [eR] at hu lR
 rw [eH] at hhh lH
 rw [eQ] at hqq lQ
 have Hi := hide hi
 have Hu := hide hu
 have Hw := hide hwho
 have Hh := hide hhh
 have Hq := hide hqq
 obtain ⟨v, r, f⟩ := x
 simp only at Hi Hu Hw Hh Hq hk ⊢
 have hws : IntKind.u64.wrap r = r := by rw [IntKind.wrap_u64]; simp only at r0 r1; omega
 clear hi hu hwho hhh hqq hT htab p0 p1 p2 p3 v0 v1 r0 r1 f0 f1 eS eR eH eQ ep
 by_cases e0 : f = 0
 ·subst e0
  have Hk := hide hk
  clear hk
  simp only [ne_eq, not_true_eq_false, false_and, if_false, or_false, List.append_nil, if_true] at Hk ⊢
  by_cases e1 : r = 0
  ·subst e1
   simp only [ne_eq, not_true_eq_false, if_false, List.append_nil]
   go_enter Tryz.func33, Tryz.ntmps33
   go_wp2_with (first
    | (go_at_call 69; refine (Hk.out _).mono ?_; rintro e w1 ⟨rfl, hb1⟩; obtain ⟨hcc1, hff1, hs1⟩ := bC hb1; (try simp at hs1); have hz1 : w.heap.size < w1.heap.size := oM)
    | (go_at_call 70; refine (Hi.out _ ab0).mono ?_; rintro e w2 ⟨rfl, hb2⟩; obtain ⟨hcc2, hff2, hs2⟩ := bC hb2; (try simp at hs2); have hz2 : w.heap.size < w2.heap.size := oM)
    | (go_at_call 71; refine (Hu.out _ ab0).mono ?_; rintro e w3 ⟨rfl, hb3⟩; obtain ⟨hcc3, hff3, hs3⟩ := bC hb3; (try simp at hs3); have hz3 : w.heap.size < w3.heap.size := oM)
    | (go_at_call 72; refine (Hw.out _).mono ?_; rintro e w4 ⟨rfl, rfl⟩)
    | (go_at_call 73; refine (Hh.out _ ab0).mono ?_; rintro e w5 ⟨rfl, hb5⟩; obtain ⟨hcc5, hff5, hs5⟩ := bC hb5; (try simp at hs5); have hz5 : w.heap.size < w5.heap.size := oM)
    | (go_at_call 73; refine (Hq.out _ ab0).mono ?_; rintro e w6 ⟨rfl, hb6⟩; obtain ⟨hcc6, hff6, hs6⟩ := bC hb6; (try simp at hs6); have hz6 : w.heap.size < w6.heap.size := oM))
   go_ret
   exact ⟨by simp [ByteArray.mk_append_mk], ab0⟩
  ·have e2 : (r != 0) = true := by simpa using e1
   simp only [ne_eq, e1, not_false_eq_true, if_true]
   go_enter Tryz.func33, Tryz.ntmps33
   go_wp2_with (first
    | (go_at_call 69; refine (Hk.out _).mono ?_; rintro e w1 ⟨rfl, hb1⟩; obtain ⟨hcc1, hff1, hs1⟩ := bC hb1; (try simp at hs1); have hz1 : w.heap.size < w1.heap.size := oM)
    | (go_at_call 70; refine (Hi.out _ ab0).mono ?_; rintro e w2 ⟨rfl, hb2⟩; obtain ⟨hcc2, hff2, hs2⟩ := bC hb2; (try simp at hs2); have hz2 : w.heap.size < w2.heap.size := oM)
    | (go_at_call 71; refine (Hu.out _ ab0).mono ?_; rintro e w3 ⟨rfl, hb3⟩; obtain ⟨hcc3, hff3, hs3⟩ := bC hb3; (try simp at hs3); have hz3 : w.heap.size < w3.heap.size := oM)
    | (go_at_call 72; refine (Hw.out _).mono ?_; rintro e w4 ⟨rfl, rfl⟩)
    | (go_at_call 73; refine (Hh.out _ ab0).mono ?_; rintro e w5 ⟨rfl, hb5⟩; obtain ⟨hcc5, hff5, hs5⟩ := bC hb5; (try simp at hs5); have hz5 : w.heap.size < w5.heap.size := oM)
    | (go_at_call 73; refine (Hq.out _ ab0).mono ?_; rintro e w6 ⟨rfl, hb6⟩; obtain ⟨hcc6, hff6, hs6⟩ := bC hb6; (try simp at hs6); have hz6 : w.heap.size < w6.heap.size := oM))
   go_ret
   exact ⟨by simp [ByteArray.mk_append_mk], ab0⟩
 ·simp only [e0, if_false] at hk
  by_cases e3 : 0 < h
  ·rw [if_pos e3] at hk
   have Hk := hide hk
   clear hk
   rw [if_neg oM, if_pos (Or.inr e0), if_pos e0]
   by_cases e1 : r = 0
   ·subst e1
    clear e3
    go_enter Tryz.func33, Tryz.ntmps33
    go_wp2_with (first
     | (go_at_call 69; refine (Hk.out _).mono ?_; rintro e w1 ⟨rfl, hb1⟩; obtain ⟨hcc1, hff1, hs1⟩ := bC hb1; (try simp at hs1); have hz1 : w.heap.size < w1.heap.size := oM)
     | (go_at_call 70; refine (Hi.out _ ab0).mono ?_; rintro e w2 ⟨rfl, hb2⟩; obtain ⟨hcc2, hff2, hs2⟩ := bC hb2; (try simp at hs2); have hz2 : w.heap.size < w2.heap.size := oM)
     | (go_at_call 71; refine (Hu.out _ ab0).mono ?_; rintro e w3 ⟨rfl, hb3⟩; obtain ⟨hcc3, hff3, hs3⟩ := bC hb3; (try simp at hs3); have hz3 : w.heap.size < w3.heap.size := oM)
     | (go_at_call 72; refine (Hw.out _).mono ?_; rintro e w4 ⟨rfl, rfl⟩)
     | (go_at_call 73; refine (Hh.out _ ab0).mono ?_; rintro e w5 ⟨rfl, hb5⟩; obtain ⟨hcc5, hff5, hs5⟩ := bC hb5; (try simp at hs5); have hz5 : w.heap.size < w5.heap.size := oM)
     | (go_at_call 73; refine (Hq.out _ ab0).mono ?_; rintro e w6 ⟨rfl, hb6⟩; obtain ⟨hcc6, hff6, hs6⟩ := bC hb6; (try simp at hs6); have hz6 : w.heap.size < w6.heap.size := oM))
    go_ret
    exact ⟨by simp [ByteArray.mk_append_mk], ab0⟩
   ·have e2 : (r != 0) = true := by simpa using e1
    clear e3
    go_enter Tryz.func33, Tryz.ntmps33
    go_wp2_with (first
     | (go_at_call 69; refine (Hk.out _).mono ?_; rintro e w1 ⟨rfl, hb1⟩; obtain ⟨hcc1, hff1, hs1⟩ := bC hb1; (try simp at hs1); have hz1 : w.heap.size < w1.heap.size := oM)
     | (go_at_call 70; refine (Hi.out _ ab0).mono ?_; rintro e w2 ⟨rfl, hb2⟩; obtain ⟨hcc2, hff2, hs2⟩ := bC hb2; (try simp at hs2); have hz2 : w.heap.size < w2.heap.size := oM)
     | (go_at_call 71; refine (Hu.out _ ab0).mono ?_; rintro e w3 ⟨rfl, hb3⟩; obtain ⟨hcc3, hff3, hs3⟩ := bC hb3; (try simp at hs3); have hz3 : w.heap.size < w3.heap.size := oM)
     | (go_at_call 72; refine (Hw.out _).mono ?_; rintro e w4 ⟨rfl, rfl⟩)
     | (go_at_call 73; refine (Hh.out _ ab0).mono ?_; rintro e w5 ⟨rfl, hb5⟩; obtain ⟨hcc5, hff5, hs5⟩ := bC hb5; (try simp at hs5); have hz5 : w.heap.size < w5.heap.size := oM)
     | (go_at_call 73; refine (Hq.out _ ab0).mono ?_; rintro e w6 ⟨rfl, hb6⟩; obtain ⟨hcc6, hff6, hs6⟩ := bC hb6; (try simp at hs6); have hz6 : w.heap.size < w6.heap.size := oM))
    go_ret
    exact ⟨by simp [ByteArray.mk_append_mk], ab0⟩
  ·rw [if_neg e3] at hk
   have Hk := hide hk
   clear hk
   rw [if_pos ⟨e0, by omega⟩]
   clear e3
   go_enter Tryz.func33, Tryz.ntmps33
   go_wp2_with (first
    | (go_at_call 69; refine (Hk.out _).mono ?_; rintro e w1 ⟨rfl, hb1⟩; obtain ⟨hcc1, hff1, hs1⟩ := bC hb1; (try simp at hs1); have hz1 : w.heap.size < w1.heap.size := oM)
    | (go_at_call 70; refine (Hi.out _ ab0).mono ?_; rintro e w2 ⟨rfl, hb2⟩; obtain ⟨hcc2, hff2, hs2⟩ := bC hb2; (try simp at hs2); have hz2 : w.heap.size < w2.heap.size := oM)
    | (go_at_call 71; refine (Hu.out _ ab0).mono ?_; rintro e w3 ⟨rfl, hb3⟩; obtain ⟨hcc3, hff3, hs3⟩ := bC hb3; (try simp at hs3); have hz3 : w.heap.size < w3.heap.size := oM)
    | (go_at_call 72; refine (Hw.out _).mono ?_; rintro e w4 ⟨rfl, rfl⟩)
    | (go_at_call 73; refine (Hh.out _ ab0).mono ?_; rintro e w5 ⟨rfl, hb5⟩; obtain ⟨hcc5, hff5, hs5⟩ := bC hb5; (try simp at hs5); have hz5 : w.heap.size < w5.heap.size := oM)
    | (go_at_call 73; refine (Hq.out _ ab0).mono ?_; rintro e w6 ⟨rfl, hb6⟩; obtain ⟨hcc6, hff6, hs6⟩ := bC hb6; (try simp at hs6); have hz6 : w.heap.size < w6.heap.size := oM))
   go_ret
   exact ⟨by simp [ByteArray.mk_append_mk], ab0⟩
def chA (q : MW) (t : Nat) (a : AS) : Nat := if (a.o = 1 ∨ a.o = 2) ∧ 0 ≤ a.l ∧ a.l < (q.hs.length : Int) then (chN (q.hs.getD a.l.toNat []).length (q.vs.getD t (fun _ => 0) a.l)).toNat else 1
def PW.ch (P : PW) (t : Nat) : Nat := match P.act t with
 | none => 0
 | some a => chA P.q t a
def PW.cs (P : PW) : List Nat := (List.range P.rows.length).map P.ch
def PW.next (P : PW) (s : Nat × Nat) : PW := match P.act s.1 with
 | none => P
 | some a => P.nx s.1 a s.2
theorem act_none {P : PW} {t : Nat} (h : P.rows.length ≤ t) : P.act t = none := by
 unfold PW.act
 split
 ·rfl
 ·rw [List.getElem?_eq_none_iff.2 h]
  rfl
theorem chA_pos (q : MW) (t : Nat) (a : AS) : 0 < chA q t a := by
 unfold chA
 split
 ·unfold chN; omega
 ·omega
def RowsB (B0 : Nat) (w : World) (P : PW) : Prop := ∀ r ∈ P.rows, Rd w B0 8 r.A r.l.length (r.l.flatMap actc)
def rowsE (Ok : PW → Prop) (B0 : Nat) : Expl PW where
 Rep := fun V P => Shows V P ∧ V.M.mem.hs.length ≤ 4096
 Inv := fun w P => Ok P ∧ RowsB B0 w P ∧ Tab w ∧ B0 ≤ w.heap.size
 key := PW.keyP
 out := PW.outP
 cs := PW.cs
 next := PW.next
theorem cs_at {P : PW} {t : Nat} (h : t < P.rows.length) : P.cs[t]? = some (P.ch t) := by
 unfold PW.cs
 rw [List.getElem?_map, List.getElem?_range h]
 rfl
theorem cs_len (P : PW) : P.cs.length = P.rows.length := by simp [PW.cs]
theorem cs_getD (P : PW) (t : Nat) : P.cs.getD t 0 = P.ch t := by
 rw [List.getD_eq_getElem?_getD]
 by_cases h : t < P.rows.length
 ·rw [cs_at h]; rfl
 ·rw [List.getElem?_eq_none_iff.2 (by rw [cs_len]; omega)]
  unfold PW.ch
  rw [act_none oM]
  rfl
theorem stp_mem {P : PW} {k : Nat} {s : Nat × Nat} (h : s ∈ stpTo P.cs k) : s.2 < P.ch s.1 := by
 unfold stpTo at h
 rw [List.mem_flatMap] at h
 obtain ⟨t, _, h2⟩ := h
 rw [List.mem_map] at h2
 obtain ⟨c, h3, rfl⟩ := h2
 rw [List.mem_range, cs_getD] at h3
 exact h3
theorem stp_len {cs : List Nat} {n : Nat} (h : ∀ x ∈ cs, x ≤ n) (k : Nat) : (stpTo cs k).length ≤ n * min k cs.length := by
 induction k with
 | zero => simp [stpTo]
 | succ k ih =>
  rw [stpTo_succ, List.length_append, List.length_map, List.length_range]
  by_cases hk : k < cs.length
  ·have h1 : cs.getD k 0 ≤ n := by
    rw [List.getD_eq_getElem?_getD, List.getElem?_eq_getElem hk]
    exact h _ (List.getElem_mem hk)
   rw [show min (k + 1) cs.length = min k cs.length + 1 by omega, Nat.mul_succ]
   omega
  ·rw [List.getD_eq_getElem?_getD, List.getElem?_eq_none_iff.2 oM, show min (k + 1) cs.length = min k cs.length by omega]
   exact ih
theorem vs_at {q : MW} (hf : q.Fit) (t : Nat) (z : Int) : 0 ≤ q.vs.getD t (fun _ => 0) z ∧ q.vs.getD t (fun _ => 0) z ≤ 1000000 := by
 rw [List.getD_eq_getElem?_getD]
 cases h : q.vs[t]? with
 | none => simp
 | some f => exact hf.vl f (List.mem_of_getElem? h) z
theorem hs_at {q : MW} (hf : q.Fit) (k : Nat) : (q.hs.getD k []).length ≤ 1000 := by
 rw [List.getD_eq_getElem?_getD]
 cases h : q.hs[k]? with
 | none => simp
 | some l => exact (hf.hl l (List.mem_of_getElem? h)).1.2
theorem ch_le {P : PW} (hf : P.Fit) (t : Nat) : P.ch t ≤ 1000 := by
 unfold PW.ch
 split
 ·omega
 ·rename_i a _
  unfold chA
  split
  ·have h1 := hs_at hf.q a.l.toNat
   have h2 := vs_at hf.q t a.l
   unfold chN
   omega
  ·omega
theorem cs_le {P : PW} (hf : P.Fit) : ∀ x ∈ P.cs, x ≤ 1000 := by
 intro x hx
 unfold PW.cs at hx
 rw [List.mem_map] at hx
 obtain ⟨t, _, rfl⟩ := hx
 exact ch_le hf t
theorem steps_le {P : PW} (hf : P.Fit) (k : Nat) : (stpTo P.cs k).length ≤ 1000000 := by
 have h1 := stp_len (cs_le hf) k
 rw [cs_len] at h1
 have h2 := hf.rt
 have h3 := hf.q.th
 omega
theorem step_parts {P : PW} {s : Nat × Nat} (h : s.2 < P.ch s.1) : ∃ a, P.act s.1 = some a ∧ P.next s = P.nx s.1 a s.2 := by
 unfold PW.ch at h
 unfold PW.next
 cases ha : P.act s.1 with
 | none => rw [ha] at h; simp at h
 | some a => exact ⟨a, rfl, rfl⟩
theorem rows_next {P : PW} {s : Nat × Nat} (h : s.2 < P.ch s.1) {B0 : Nat} {w : World} (hr : RowsB B0 w P) : RowsB B0 w (P.next s) := by
 obtain ⟨a, _, h4⟩ := step_parts h
 rw [h4]
 intro r' hr'
 obtain ⟨j, hj⟩ := List.mem_iff_getElem?.1 hr'
 have hj' : (P.rows.modify s.1 RowP.nx)[j]? = some r' := hj
 by_cases e : s.1 = j
 ·rw [← e, mod_at] at hj'
  obtain ⟨r0, hr0, rfl⟩ := Option.map_eq_some_iff.1 hj'
  exact hr r0 (List.mem_of_getElem? hr0)
 ·rw [mod_ne _ e] at hj'
  exact hr r' (List.mem_of_getElem? hj')
theorem doq_hs (q : MW) (t : Nat) (a : ActV) (c : Int) : (q.doq t a c).1.hs.length = q.hs.length := by
 unfold MW.doq
 simp only
 repeat' split
 all_goals first
  | rfl
  | exact List.length_set
theorem words_at {m : MachV} {q : MW} (h : MShows m q) (hf : q.Fit) {k : Nat} {x : W3} (hx : q.words[k]? = some x) : ∃ (hi : HistV) (j : Nat) (g : MsgV), m.mem.hs[k]? = some hi ∧ hi.l.length = j + 1 ∧ j ≤ 1000000 ∧ hi.l[j]? = some g ∧ g.x = x ∧ x.okW := by
 unfold MW.words at hx
 rw [List.getElem?_map, Option.map_eq_some_iff] at hx
 obtain ⟨l, hl, e⟩ := hx
 obtain ⟨hi, hh, hl2⟩ := map_at h.1 hl
 obtain ⟨⟨n0, n1⟩, hp⟩ := hf.hl l (List.mem_of_getElem? hl)
 have hlen : hi.l.length = l.length := map_len hl2
 have hj : l.length - 1 < hi.l.length := by omega
 refine ⟨hi, l.length - 1, hi.l[l.length - 1], hh, by omega, by omega, List.getElem?_eq_getElem hj, ?_, ?_⟩
 ·have e9 : (hi.l.map msgP)[l.length - 1]? = some (msgP hi.l[l.length - 1]) := by rw [List.getElem?_map, List.getElem?_eq_getElem hj]; rfl
  rw [hl2] at e9
  rw [← e, List.getLast?_eq_getElem?, e9]
  rfl
 ·rw [← e, List.getLast?_eq_getElem?, List.getElem?_eq_getElem (show l.length - 1 < l.length by omega)]
  exact (hp _ (List.getElem_mem (show l.length - 1 < l.length by omega))).1
theorem words_okW {q : MW} (hf : q.Fit) : ∀ x ∈ q.words, x.okW := by
 intro x hx
 unfold MW.words at hx
 rw [List.mem_map] at hx
 obtain ⟨l, hl, e⟩ := hx
 obtain ⟨⟨n0, n1⟩, hp⟩ := hf.hl l hl
 rw [← e, List.getLast?_eq_getElem?, List.getElem?_eq_getElem (show l.length - 1 < l.length by omega)]
 exact (hp _ (List.getElem_mem (show l.length - 1 < l.length by omega))).1
theorem pend_row {V : WorldV} {P : PW} (hS : Shows V P) (hf : P.Fit) (hns : ∀ b ∈ P.ss, b = false) (k n : Nat) (hn : P.cs[k]? = some n) : ∃ a, Pend V k n a := by
 have hk : k < P.rows.length := by have := (List.getElem?_eq_some_iff.1 hn).1; rwa [cs_len] at this
 rw [cs_at hk] at hn
 injection hn with hn
 obtain ⟨s1, s2, s3, s4, s6, s5⟩ := hS
 obtain ⟨m1, m2, m3, m4, m5, m6⟩ := s1
 have hth := hf.q.th
 have hrt := hf.rt
 have hhs := hf.q.hs
 have hr := List.getElem?_eq_getElem hk
 have hkt : k < V.ts.length := by omega
 have hkk := List.getElem?_eq_getElem hkt
 have hks : k < P.ss.length := by omega
 have hps : P.ss[k]? = some false := by rw [List.getElem?_eq_getElem hks, hns _ (List.getElem_mem hks)]
 have hss : V.ss[k]? = some false := by rw [s3]; exact hps
 have hrow := s5 k _ _ hkk hr
 have hact : P.act k = (P.rows[k]).l[(P.rows[k]).i]? := by
  unfold PW.act
  rw [getD_at hps, hr]
  rfl
 cases ha : (P.rows[k]).l[(P.rows[k]).i]? with
 | none =>
  have h0 : n = 0 := by rw [← hn]; unfold PW.ch; rw [hact, ha]
  subst h0
  refine ⟨V.ts[k].a, fun W hR => ?_, fun h => absurd h (Nat.lt_irrefl 0)⟩
  refine ex_pending V k _ false W hR hkk oM hss (fun W2 => ?_)
  have hd : (rowS (P.rows[k]).A (P.rows[k]).cap (P.rows[k]).l (P.rows[k]).i).2.2 = true := by unfold rowS; rw [ha]
  unfold RT at hrow
  rw [hd] at hrow
  obtain ⟨h1, ⟨h2, _, _⟩ | ⟨_, h3, h4⟩⟩ := hrow
  ·cases h2
  ·have q := act_yes (V.ts[k]).c (V.ts[k]).a (V.ts[k]).A (V.ts[k]).m (V.ts[k]).cp W2
   rw [← h4] at q
   exact q
 | some a =>
  have hch : n = chA P.q k a := by
   rw [← hn]
   unfold PW.ch
   rw [hact, ha]
  have hpos : 0 < n := by rw [hch]; exact chA_pos _ _ _
  have hka := fun W => (rt_act hrow ha W)
  refine ⟨a, fun W hR => ?_, fun _ W hR => ?_⟩
  ·rw [decide_eq_true hpos]
   have q := ex_pending V k _ true W hR hkk oM hss (fun W2 => (hka W2).2)
   rw [(hka W).1] at q
   exact q
  ·rw [hch]
   have l1 := map_len m1
   have l2 := map_len m2
   unfold chA
   by_cases h12 : a.o = 1 ∨ a.o = 2
   ·by_cases hin : 0 ≤ a.l ∧ a.l < (P.q.hs.length : Int)
    ·rw [if_pos ⟨h12, hin⟩]
     have hkl : a.l.toNat < P.q.hs.length := by omega
     have hkv : k < P.q.vs.length := by omega
     have g1 := List.getElem?_eq_getElem hkl
     have g2 := List.getElem?_eq_getElem hkv
     obtain ⟨h, hh, e1⟩ := map_at m1 g1
     obtain ⟨v, hv, e2⟩ := map_at m2 g2
     have hvl := hf.q.vl _ (List.getElem_mem hkv)
     have l3 := map_len e1
     obtain ⟨hl0, hl1⟩ := (hf.q.hl _ (List.getElem_mem hkl)).1
     have e3 : ((a.l.toNat : Nat) : Int) = a.l := by omega
     have e4 : (((chN h.l.length (v.f a.l)).toNat : Nat) : Int) = chN h.l.length (v.f a.l) := by
      unfold chN
      omega
     rw [getD_at g1, getD_at g2, ← l3, ← e2, e4]
     rcases h12 with h1 | h1
     ·have q := ex_choices_load V.M k a.l.toNat h v a W hR.1 h1 oM hh hv oM oM oM (fun z => by rw [e2]; exact (hvl z).2)
      rw [e3] at q
      exact q
     ·have q := ex_choices_acq V.M k a.l.toNat h v a W hR.1 h1 oM hh hv oM oM oM (fun z => by rw [e2]; exact (hvl z).2)
      rw [e3] at q
      exact q
    ·rw [if_neg (by rintro ⟨_, h⟩; exact hin h)]
     rcases h12 with h1 | h1
     ·exact ex_choices_none1 V.M _ a.l a W hR.1 h1 rfl oM
     ·exact ex_choices_none2 V.M _ a.l a W hR.1 h1 rfl oM
   ·rw [if_neg (by rintro ⟨h, _⟩; exact h12 h)]
    exact ex_choices_one V.M _ a W oM oM
theorem rows_ok (Ok : PW → Prop) (B0 : Nat) (hB : 0 < B0)
  (hfit : ∀ P, Ok P → P.Fit ∧ (∀ r ∈ P.rows, r.l.length ≤ 100 ∧ r.i ≤ r.l.length) ∧ ∀ b ∈ P.ss, b = false)
  (hnext : ∀ P s, Ok P → s ∈ stpTo P.cs P.cs.length → Ok (P.next s)) : ExplOK (rowsE Ok B0) B0 where
 inv := fun ⟨h1, h2, h3, h4⟩ hb => ⟨h1, fun r hr => (h2 r hr).below hb, h3.below hb hB, Nat.le_trans h4 hb.size⟩
 invn := fun ⟨h1, h2, h3, h4⟩ hs => ⟨hnext _ _ h1 hs, rows_next (stp_mem hs) h2, h3, h4⟩
 sz := fun h => h.2
 keyl := fun h => (hfit _ h.1).1.kl
 outl := fun h => (hfit _ h.1).1.ol
 stepl := fun h => steps_le (hfit _ h.1).1 _
 key := fun {V P w} hR hRep hInv => by
  have hf := (hfit _ hInv.1).1
  have q := ex_key V w hR hInv.2.2.1 (Nat.lt_of_lt_of_le hB hInv.2.2.2) (shows_okK hR hRep.1 hf)
  rw [shows_keyT hRep.1 hf.rg] at q
  exact q
 out := fun {V P w} hR hRep hInv => by
  obtain ⟨hS, hL⟩ := hRep
  obtain ⟨hOk, hRows, hT, hB1⟩ := hInv
  have hf := (hfit _ hOk).1
  have hw := words_okW hf.q
  have hwl : P.q.words.length = V.M.mem.hs.length := by
   have := map_len hS.1.1
   simp only [MW.words, List.length_map]
   omega
  have hhs := hf.q.hs
  have l1 := map_len hS.1.1
  have hth := hf.q.th
  have hrt := hf.rt
  have q := ex_outcome textW W3.okW V P.q.words w hR (fun W hW => mach_words V.M P.q.words W (hR.below hW).1.1 hwl oM (fun k x hx W2 hR2 => by
    obtain ⟨hi, j, g, g1, g2, g3, g4, rfl, _⟩ := words_at hS.1 hf.q hx
    exact mach_word V.M k j hi g W2 hR2 g1 g2 g3 g4)) oM oM
   (fun x hx W hW => text_any x W hx (hT.below hW (Nat.lt_of_lt_of_le hB hB1)) (Nat.lt_of_lt_of_le (Nat.lt_of_lt_of_le hB hB1) hW.size)) hw
   (fun k hk g hg => (hf.gl k.l (by rw [← hS.2.1]; exact List.mem_map_of_mem hk)).2 g hg) (by rw [hS.2.2.2.1]; omega)
   (fun k hk => by
    have hm : k.l.length = k.m := gots_length (hR.2.1.2.2.2 k hk).1
    have := (hf.gl k.l (by rw [← hS.2.1]; exact List.mem_map_of_mem hk)).1
    omega) (by rw [hS.2.1]; exact hf.ol)
  rw [hS.2.1] at q
  exact q
 steps := fun {V P w} hR hRep hInv => by
  obtain ⟨hS, hL⟩ := hRep
  have hf := (hfit _ hInv.1).1
  have hth := hf.q.th
  have hrt := hf.rt
  have e := hS.2.2.2.1
  have q := ex_steps V P.cs w hR (by rw [cs_len, e]) oM (steps_le hf) (pend_row hS hf (hfit _ hInv.1).2.2)
  have q2 : stpTo P.cs V.ts.length = stpTo P.cs P.cs.length := by rw [e, cs_len]
  rw [q2] at q
  exact q
 after := fun {V P w s} hR hRep hInv hs => by
  obtain ⟨hS, hL⟩ := hRep
  obtain ⟨hOk, hRows, hT, hB1⟩ := hInv
  obtain ⟨hf, hrs, hns⟩ := hfit _ hOk
  have hlt := stp_mem hs
  obtain ⟨a, ha, h4⟩ := step_parts hlt
  have hcl := ch_le hf s.1
  have hhs : ((P.next s).q.hs).length = P.q.hs.length := by rw [h4]; exact doq_hs _ _ _ _
  refine (ex_after V s.1 s.2 w (fun V2 => Shows V2 (P.next s)) hR (fun W hW hR2 => ?_)).mono ?_
  ·rw [h4]
   exact step_row V P W s.1 s.2 a hR2 hS (fun r' hr' => ⟨((hRows r' hr').below (hW.mono hB1)).more (Nat.le_trans hB1 hW.size), by have := hrs r' hr'; omega⟩) ha hf.q.can hf.rt (fun gl hg => (hf.gl gl hg).1) (WalkArith.wf_i64 oM)
  ·rintro e w' ⟨V2, rfl, hS2, hR2, hoff, hb⟩
   exact ⟨V2, rfl, ⟨hS2, by have := map_len hS2.1.1; have := map_len hS.1.1; omega⟩, hR2, hoff, hb⟩
theorem info_code59 : (Tryz.prog.info? 71).map (fun i => (i.zero, i.size, i.bytes)) = some (some .nilIface, 1, 16) := by kernel_rfl
structure ActsV where
 A : Nat → Option Addr
 c : Nat → Nat
 l : Nat → List AS
def ActsV.sl (x : ActsV) (k : Nat) : Value := .slice (x.A k) (x.l k).length (x.c k)
def ActsV.cv (x : ActsV) (k : Nat) : Value := .iface 80 (rowV (x.A k) (x.l k).length (x.c k) 0)
def ActsV.tot (x : ActsV) (k : Nat) : Nat := ((List.range k).map (fun j => (x.l j).length)).sum
theorem ActsV.tot_succ (x : ActsV) (k : Nat) : x.tot (k + 1) = x.tot k + (x.l k).length := by
 unfold ActsV.tot
 rw [List.range_succ, List.map_append, List.sum_append]
 simp
def ActsV.R (w : World) (B : Nat) (x : ActsV) : Prop := ∀ k, k < 3 → Rd w B 8 (x.A k) (x.l k).length ((x.l k).flatMap actc)
def PW0 (ws : List W3) (x : ActsV) : PW := ⟨⟨ws.map (fun y => [(y, 0, fun _ => 0)]), List.replicate 3 (fun _ => 0), List.replicate ((ws.length + 7) / 8) (0, []), fun _ _ => 0⟩, (List.range 3).map (fun k => ⟨x.A k, x.c k, x.l k, 0⟩), List.replicate 3 [], List.replicate 3 false⟩
theorem fresh_shows {M : MachV} {ws : List W3} (h : M.fresh 3 ws) (x : ActsV) : MShows M (PW0 ws x).q := by
 obtain ⟨h1, h2, h3, h4, h5, h6, h7, h8⟩ := h
 refine ⟨?_, ?_, ?_, ?_, h8, ?_⟩
 ·show M.mem.hs.map (fun h => h.l.map msgP) = ws.map (fun y => [(y, 0, fun _ => 0)])
  rw [show (fun h : HistV => h.l.map msgP) = (fun l => l.map msgP) ∘ HistV.l from rfl, ← List.map_map, h1, List.map_map]
  rfl
 ·rw [h2]; rfl
 ·rw [h4, List.map_replicate]; rfl
 ·rw [h3]; simp [PW0]
 ·rw [h6]; simp [PW0]
theorem world_ok (A : Option Addr) (n cap : Nat) (ws : List W3) (x : ActsV) (w : World) (hw : ws.length = n) (hr : Rd w w.heap.size 3 A n (ws.flatMap w3c)) (hx : x.R w w.heap.size) (h4 : ∀ k, k < 3 → (x.l k).length ≤ 4) (h7 : x.tot 3 ≤ 7) (hn1 : 1 ≤ n) (hn2 : n ≤ 12) :
  Calls Tryz.prog 7 #[.slice A n cap, .agg #[x.sl 0, x.sl 1, x.sl 2]] w fun e w' => ∃ V : WorldV, e = .returned (.tuple #[(woV V), .bool true]) ∧ Shows V (PW0 ws x) ∧ V.R w' ∧ Below w.heap.size w w' := by
 obtain ⟨i0, hi0, jz0, jz1, jz2⟩ := info_parts info_code59
 have hi := hide hi0
 have iz0 := hide jz0
 have iz1 := hide jz1
 have iz2 := hide jz2
 obtain ⟨k0, p0, q0⟩ := rt_start (x.A 0) (x.c 0) (x.l 0) w (hx 0 oM)
 obtain ⟨k1, p1, q1⟩ := rt_start (x.A 1) (x.c 1) (x.l 1) w (hx 1 oM)
 obtain ⟨k2, p2, q2⟩ := rt_start (x.A 2) (x.c 2) (x.l 2) w (hx 2 oM)
 have hst : ∀ (j : Nat) (c : Value) (k : TaskV) (W : World), ((List.range 3).map x.cv)[j]? = some c → [k0, k1, k2][j]? = some k → Below w.heap.size w W → Calls Tryz.prog 55 #[c] W fun e w' => e = .returned (.agg #[k.c, k.nx, .int .i64 k.a.o, .int .i64 k.a.l, .int .i64 k.a.v, .int .u32 k.a.r, .int .u32 k.a.f, .int .i64 k.a.v2, .int .u32 k.a.r2, .int .u32 k.a.f2, .slice k.A k.m k.cp]) ∧ Below W.heap.size W w' := by
  intro j c k W hc hk hW
  match j, hc, hk with
  | 0, hc, hk => injection hc with hc; injection hk with hk; subst hc hk; exact q0 W hW
  | 1, hc, hk => injection hc with hc; injection hk with hk; subst hc hk; exact q1 W hW
  | 2, hc, hk => injection hc with hc; injection hk with hk; subst hc hk; exact q2 W hW
  | j + 3, hc, hk => cases hk
 have hks : ∀ k ∈ [k0, k1, k2], k.ok ∧ k.A = none ∧ k.m = 0 ∧ k.cp = 0 ∧ k.l = [] := by
  intro k hk
  simp only [List.mem_cons, List.not_mem_nil, or_false] at hk
  rcases hk with rfl | rfl | rfl
  ·exact ⟨TS.ok p0.1, p0.2⟩
  ·exact ⟨TS.ok p1.1, p1.2⟩
  ·exact ⟨TS.ok p2.1, p2.2⟩
 have hmk := fun (M : MachV) (A : Option Addr) (cap : Nat) (W : World) (hR : M.R W) (hth : 3 ≤ M.mem.vs.length) (hr : Rd W W.heap.size 1 A 3 ((List.range 3).map x.cv)) (hW : Below w.heap.size w W) => task_make M A 3 cap ((List.range 3).map x.cv) [k0, k1, k2] W hR hth oM oM hr rfl hks (fun j c k W2 hc hk h2 => hst j c k W2 hc hk (hW.trans (h2.mono hW.size)))
 have hnw := fun W (h : Below w.heap.size w W) => mach_new 3 n A cap ws W hw ((hr.below h).more h.size) oM oM hn1 oM
 have hsh : ∀ V : WorldV, V.M.fresh 3 ws → V.ts = [k0, k1, k2] → V.ss = List.replicate 3 false → Shows V (PW0 ws x) := by
  intro V hf ht hs
  refine ⟨fresh_shows hf x, ?_, hs, by rw [ht]; rfl, rfl, ?_⟩
  ·rw [ht]
   show [k0.l, k1.l, k2.l] = [[], [], []]
   rw [p0.2.2.2.2, p1.2.2.2.2, p2.2.2.2.2]
  ·intro t k r hk hr
   rw [ht] at hk
   match t, hk, hr with
   | 0, hk, hr => injection hk with hk; injection hr with hr; subst hk hr; exact p0.1
   | 1, hk, hr => injection hk with hk; injection hr with hr; subst hk hr; exact p1.1
   | 2, hk, hr => injection hk with hk; injection hr with hr; subst hk hr; exact p2.1
   | t + 3, hk, hr => cases hk
 have Hmk := hide hmk
 have Hnw := hide hnw
 have Hsh := hide hsh
 have g0 : (n : Int) ≠ 0 := by omega
 have g0' : ((n : Int) == 0) = false := by simpa using g0
 have g1 : ¬ ((n : Int) > 12) := by omega
 have g1' : ¬ ((12 : Int) < n) := by omega
 have H4 := hide h4
 have h7' : ¬ ((x.tot 3 : Int) > 7) := by omega
 have H7 := hide h7'
 clear hr hx p0 p1 p2 q0 q1 q2 hst hks hmk hnw hsh hw h4 h7 h7' hi0 jz0 jz1 jz2
 go_enter Tryz.func7, Tryz.ntmps7
 go_wp2_with fail
 obtain ⟨w1, hw1⟩ : ∃ W : World, W = (w.alloc (.cells #[x.sl 0, x.sl 1, x.sl 2] 25)).alloc (.cells #[.slice none 0 0, .slice none 0 0, .slice none 0 0, .slice none 0 0, .map none, .slice none 0 0, .int .i64 0, .slice none 0 0, .slice none 0 0] 40) := ⟨_, rfl⟩
 have hB1 : Below w.heap.size w w1 := by rw [hw1]; exact ab0
 have hs1 : w.heap.size + 1 + 1 ≤ w1.heap.size := by rw [hw1]; simp
 have hC : BoxC (w.heap.size + 1) [.slice none 0 0, .slice none 0 0, .slice none 0 0, .slice none 0 0, .map none, .slice none 0 0, .int .i64 0, .slice none 0 0, .slice none 0 0] w1 := by rw [hw1]; have q := BoxC.made (w.alloc (.cells #[x.sl 0, x.sl 1, x.sl 2] 25)) #[.slice none 0 0, .slice none 0 0, .slice none 0 0, .slice none 0 0, .map none, .slice none 0 0, .int .i64 0, .slice none 0 0, .slice none 0 0] 40; simpa using q
 have HC := hide hC
 clear hC
 rw [← hw1]
 clear hw1
 go_loopw [15, 6, 7] (fun i m v wr => ∃ (k : Nat) (z : Int), i = .int .i64 z ∧ z = k ∧ k ≤ 3 ∧ m = .int .i64 (x.tot k) ∧ wr.ownsRow w1.heap.size 71 1 v k ((List.range k).map x.cv) ∧ Hid (Below w1.heap.size w1 wr)) (fun i _ _ _ => 3 - (intOf i).toNat)
 case atStart => exact ⟨0, 0, rfl, rfl, by omega, rfl, World.ownsRow_nil _ _ _ _, hide (Below.refl _ _)⟩
 case round =>
  obtain ⟨k, z, rfl, hz, hk, rfl, hown, HB⟩ := hrel
  by_cases hlt : z < 3
  ·have hk3 : k < 3 := by omega
   have hle : ¬ (((x.l k).length : Int) > 4) := by have := H4.out k hk3; omega
   have hle' : ¬ ((4 : Int) < ((x.l k).length : Int)) := by have := H4.out k hk3; omega
   have hsum : ((x.tot k : Nat) : Int) + ((x.l k).length : Int) = ((x.tot (k + 1) : Nat) : Int) := by rw [x.tot_succ]; omega
   have htb : x.tot (k + 1) ≤ 12 := by
    have e1 := H4.out 0 oM
    have e2 := H4.out 1 oM
    have e3 := H4.out 2 oM
    have e4 := x.tot_succ 0
    have e5 := x.tot_succ 1
    have e6 := x.tot_succ 2
    have e7 : x.tot 0 = 0 := rfl
    have h3 : k = 0 ∨ k = 1 ∨ k = 2 := by omega
    rcases h3 with rfl | rfl | rfl <;> simp only [Nat.zero_add, Nat.reduceAdd] at e4 e5 e6 ⊢ <;> omega
   have hwr : IntKind.i64.wrap (((x.tot k : Nat) : Int) + ((x.l k).length : Int)) = ((x.tot (k + 1) : Nat) : Int) := by rw [hsum]; exact IntWalk.i64_in _ oM
   have hsr := HB.out.size
   have Hown := hide hown
   have hB0 : Below w1.heap.size w1 wr := HB.out
   have hB0w : Below w.heap.size w wr := hB1.trans (hB0.mono hB1.size)
   obtain ⟨A9, c9, rfl, hc9, hA9⟩ := own_slice hown
   clear hown HB
   have hidx : (Instr.index 25 (.agg #[x.sl 0, x.sl 1, x.sl 2]) (.int .i64 (k : Int))).run Tryz.prog wr = .ok (.slice (x.A k) (x.l k).length (x.c k)) wr := by
    have h3 : k = 0 ∨ k = 1 ∨ k = 2 := by omega
    rcases h3 with rfl | rfl | rfl <;> rfl
   go_wp2_with (first
    | (at_builtin; (refine wpList_append_own _ rfl _ _ 78 rfl w1.heap.size 71 i0 _ 1 16 Tryz.underlying78 hi.out iz0.out iz1.out iz2.out rfl dM (.slice A9 k c9) k ((List.range k).map x.cv) rfl (own_below Hown.out ab0) ⟨wr.heap.size, 0, none⟩ 1 1 [x.cv k] rfl rfl ?o2 ?o3 ?o4 ?o5 ?o6 ?_)))
   case o2 => exact fun j u h => h
   case o3 => rfl
   case o4 => unfold maxLen; omega
   case o5 => omega
   case o6 => exact (by first | omega | (simp; done) | (simp; omega))
   intro v5 w5 how5 hg5 _
   have hB5 : Below w1.heap.size w1 w5 := below_grown (hB0.trans (ab0)) hg5 (own_below Hown.out ab0) (Nat.le_refl _) (by simp; omega)
   have How5 := hide how5
   have HB5 := hide hB5
   clear how5 hB5 hg5
   go_wp2_with fail
   first
    | exact ⟨⟨k + 1, (k : Int) + 1, by go_num, by omega, by omega, rfl, by rw [List.range_succ, List.map_append]; exact How5.out, HB5⟩, by simp [intOf]; omega⟩
    | ((repeat apply Exists.intro); exact ⟨⟨k + 1, (k : Int) + 1, by go_num, by omega, by omega, rfl, by rw [List.range_succ, List.map_append]; exact How5.out, HB5⟩, by simp [intOf]; omega⟩)
  ·obtain rfl : k = 3 := by omega
   obtain rfl : z = 3 := by omega
   obtain ⟨g9, c9, rfl, hc9, hg9, hr9⟩ := own_some hown oM
   have Hr9 := hide hr9
   have h7' := H7.out
   have h7'' : ¬ ((7 : Int) < ((x.tot 3 : Nat) : Int)) := by omega
   have hBw : Below w.heap.size w wr := hB1.trans (HB.out.mono hB1.size)
   have hzr : w.heap.size + 1 < wr.heap.size := by have := HB.out.size; omega
   have hzr0 : w.heap.size < wr.heap.size := by omega
   clear hown hr9 hz hk hlt
   go_upto_region 15 with (first
    | (go_at_call 21; refine (Hnw.out _ (by first | with_reducible exact hBw | exact ab0)).mono ?_; rintro e w2 ⟨M, rfl, hfr, hMR, hMO, hb2⟩; obtain ⟨hcc2, hff2, hs2⟩ := bC hb2; (try simp at hs2); have hz20 : w.heap.size < w2.heap.size := oM; have hz21 : w.heap.size + 1 < w2.heap.size := oM; have Hfr := hide hfr; have HMR := hide hMR; have HMO := hide hMO; have hb2w : Below w.heap.size w w2 := hBw.trans (hb2.mono oM); clear hfr hMR hMO)
    | (go_at_call 22; refine (Hmk.out M _ c9 _ (HMR.out.below ab0) (by rw [Hfr.out.2.1]; exact Nat.le_refl 3) ((Hr9.out.below (Below.trans (by with_reducible assumption) (Below.mono (B := w2.heap.size) ab0 oM))).more (by first | omega | (simp; done) | (simp; omega))) (by first | with_reducible exact hb2w | exact ab0)).mono ?_; rintro e w3 ⟨V, rfl, hV1, hV2, hV3, hVR, hVO, hb3⟩; obtain ⟨hcc3, hff3, hs3⟩ := bC hb3; (try simp at hs3); have hz30 : w.heap.size < w3.heap.size := oM; have hz31 : w.heap.size + 1 < w3.heap.size := oM; have HV1 := hide hV1; have HV2 := hide hV2; have HV3 := hide hV3; have HVR := hide hVR; have HVO := hide hVO; clear hV1 hV2 hV3 hVR hVO))
   -- BEHIND
   have hsr := HB.out.size
   have hzC : w.heap.size + 1 < w1.heap.size := by omega
   have hBw3 : Below w1.heap.size w1 w3 := HB.out.trans (((hb2.mono oM) : Below w1.heap.size wr w2).trans (((Below.alloc (Below.refl w2.heap.size w2) (Nat.le_refl _) _).trans (hb3.mono sM)).mono oM))
   have oV : V.off (w.heap.size + 1) := HVO.out _ (by simp; omega) (HMO.out _ oM)
   obtain ⟨w4, hw4⟩ : ∃ W : World, W = w3.alloc (.cells #[.slice V.M.mem.pA V.M.mem.hs.length V.M.mem.pc, .slice V.M.mem.vA V.M.mem.vs.length V.M.mem.vc, .slice V.M.ln.fA V.M.ln.first.length V.M.ln.fc, .slice V.M.ln.lA V.M.ln.logs.length V.M.ln.lc, .map V.M.ln.asks, .slice V.M.sA V.M.steps.length V.M.sc, .int .i64 V.M.crashes, .slice V.tA V.ts.length V.tc, .slice V.sA V.ss.length V.sc] 40) := ⟨_, rfl⟩
   have hB34 : Below w3.heap.size w3 w4 := by rw [hw4]; exact Below.alloc (Below.refl _ _) (Nat.le_refl _) _
   have hBw4 : Below w1.heap.size w1 w4 := hBw3.trans (hB34.mono hBw3.size)
   have c0 := (hBw4.cell (p := ⟨w.heap.size + 1, 0, none⟩) hzC).trans (HC.out.at (j := 0) rfl)
   have c1 := (hBw4.cell (p := ⟨w.heap.size + 1, 1, none⟩) hzC).trans (HC.out.at (j := 1) rfl)
   have c2 := (hBw4.cell (p := ⟨w.heap.size + 1, 2, none⟩) hzC).trans (HC.out.at (j := 2) rfl)
   have c3 := (hBw4.cell (p := ⟨w.heap.size + 1, 3, none⟩) hzC).trans (HC.out.at (j := 3) rfl)
   have c4 := (hBw4.cell (p := ⟨w.heap.size + 1, 4, none⟩) hzC).trans (HC.out.at (j := 4) rfl)
   have c5 := (hBw4.cell (p := ⟨w.heap.size + 1, 5, none⟩) hzC).trans (HC.out.at (j := 5) rfl)
   have c6 := (hBw4.cell (p := ⟨w.heap.size + 1, 6, none⟩) hzC).trans (HC.out.at (j := 6) rfl)
   have c7 := (hBw4.cell (p := ⟨w.heap.size + 1, 7, none⟩) hzC).trans (HC.out.at (j := 7) rfl)
   have c8 := (hBw4.cell (p := ⟨w.heap.size + 1, 8, none⟩) hzC).trans (HC.out.at (j := 8) rfl)
   have fz2 : ∀ o, w4.frozen? ⟨w.heap.size + 1, o, none⟩ = false := fun o => (hBw4.frozen (p := ⟨w.heap.size + 1, o, none⟩) hzC).trans (HC.out.2.1 o)
   have hobv : w4.heap[w3.heap.size]? = some (.cells #[.slice V.M.mem.pA V.M.mem.hs.length V.M.mem.pc, .slice V.M.mem.vA V.M.mem.vs.length V.M.mem.vc, .slice V.M.ln.fA V.M.ln.first.length V.M.ln.fc, .slice V.M.ln.lA V.M.ln.logs.length V.M.ln.lc, .map V.M.ln.asks, .slice V.M.sA V.M.steps.length V.M.sc, .int .i64 V.M.crashes, .slice V.tA V.ts.length V.tc, .slice V.sA V.ss.length V.sc] 40 (0, 0)) := by rw [hw4]; exact heap_new _ _ rfl
   have d0 : w4.cell? ⟨w3.heap.size, 0, none⟩ = some (.slice V.M.mem.pA V.M.mem.hs.length V.M.mem.pc) := by simp [World.cell?, hobv]
   have d1 : w4.cell? ⟨w3.heap.size, 1, none⟩ = some (.slice V.M.mem.vA V.M.mem.vs.length V.M.mem.vc) := by simp [World.cell?, hobv]
   have d2 : w4.cell? ⟨w3.heap.size, 2, none⟩ = some (.slice V.M.ln.fA V.M.ln.first.length V.M.ln.fc) := by simp [World.cell?, hobv]
   have d3 : w4.cell? ⟨w3.heap.size, 3, none⟩ = some (.slice V.M.ln.lA V.M.ln.logs.length V.M.ln.lc) := by simp [World.cell?, hobv]
   have d4 : w4.cell? ⟨w3.heap.size, 4, none⟩ = some (.map V.M.ln.asks) := by simp [World.cell?, hobv]
   have d5 : w4.cell? ⟨w3.heap.size, 5, none⟩ = some (.slice V.M.sA V.M.steps.length V.M.sc) := by simp [World.cell?, hobv]
   have d6 : w4.cell? ⟨w3.heap.size, 6, none⟩ = some (.int .i64 V.M.crashes) := by simp [World.cell?, hobv]
   have d7 : w4.cell? ⟨w3.heap.size, 7, none⟩ = some (.slice V.tA V.ts.length V.tc) := by simp [World.cell?, hobv]
   have d8 : w4.cell? ⟨w3.heap.size, 8, none⟩ = some (.slice V.sA V.ss.length V.sc) := by simp [World.cell?, hobv]
   have hB4 : Below w.heap.size w w4 := hB1.trans (hBw4.mono hB1.size)
   have HR4 := hide (HVR.out.below hB34)
   have hz4 : w3.heap.size ≠ w.heap.size + 1 := by omega
   rw [← hw4]
   clear hw4 hobv hBw3 hBw4 hB34 hb2 hb3 hcc2 hff2 hcc3 hff3 hB1 hBw hb2w
   go_wp2_with fail
   have HZ := hide ((WorldV.R.set (WorldV.R.set (WorldV.R.set (WorldV.R.set (WorldV.R.set (WorldV.R.set (WorldV.R.set (WorldV.R.set (WorldV.R.set HR4.out oV (.of c0) (.slice V.M.mem.pA V.M.mem.hs.length V.M.mem.pc)) oV (.set (.of c1) _) (.slice V.M.mem.vA V.M.mem.vs.length V.M.mem.vc)) oV (.set (.set (.of c2) _) _) (.slice V.M.ln.fA V.M.ln.first.length V.M.ln.fc)) oV (.set (.set (.set (.of c3) _) _) _) (.slice V.M.ln.lA V.M.ln.logs.length V.M.ln.lc)) oV (.set (.set (.set (.set (.of c4) _) _) _) _) (.map V.M.ln.asks)) oV (.set (.set (.set (.set (.set (.of c5) _) _) _) _) _) (.slice V.M.sA V.M.steps.length V.M.sc)) oV (.set (.set (.set (.set (.set (.set (.of c6) _) _) _) _) _) _) (.int .i64 V.M.crashes)) oV (.set (.set (.set (.set (.set (.set (.set (.of c7) _) _) _) _) _) _) _) (.slice V.tA V.ts.length V.tc)) oV (.set (.set (.set (.set (.set (.set (.set (.set (.of c8) _) _) _) _) _) _) _) _) (.slice V.sA V.ss.length V.sc)))
   have HBB := hide ((Below.setCell (Below.setCell (Below.setCell (Below.setCell (Below.setCell (Below.setCell (Below.setCell (Below.setCell (Below.setCell hB4 (p := ⟨w.heap.size + 1, 0, none⟩) (by show w.heap.size ≤ w.heap.size + 1; omega) (.slice V.M.mem.pA V.M.mem.hs.length V.M.mem.pc)) (p := ⟨w.heap.size + 1, 1, none⟩) (by show w.heap.size ≤ w.heap.size + 1; omega) (.slice V.M.mem.vA V.M.mem.vs.length V.M.mem.vc)) (p := ⟨w.heap.size + 1, 2, none⟩) (by show w.heap.size ≤ w.heap.size + 1; omega) (.slice V.M.ln.fA V.M.ln.first.length V.M.ln.fc)) (p := ⟨w.heap.size + 1, 3, none⟩) (by show w.heap.size ≤ w.heap.size + 1; omega) (.slice V.M.ln.lA V.M.ln.logs.length V.M.ln.lc)) (p := ⟨w.heap.size + 1, 4, none⟩) (by show w.heap.size ≤ w.heap.size + 1; omega) (.map V.M.ln.asks)) (p := ⟨w.heap.size + 1, 5, none⟩) (by show w.heap.size ≤ w.heap.size + 1; omega) (.slice V.M.sA V.M.steps.length V.M.sc)) (p := ⟨w.heap.size + 1, 6, none⟩) (by show w.heap.size ≤ w.heap.size + 1; omega) (.int .i64 V.M.crashes)) (p := ⟨w.heap.size + 1, 7, none⟩) (by show w.heap.size ≤ w.heap.size + 1; omega) (.slice V.tA V.ts.length V.tc)) (p := ⟨w.heap.size + 1, 8, none⟩) (by show w.heap.size ≤ w.heap.size + 1; omega) (.slice V.sA V.ss.length V.sc)))
   refine bodyPost_ret (v := .tuple #[(.agg #[.slice ((V).M).mem.pA ((V).M).mem.hs.length ((V).M).mem.pc, .slice ((V).M).mem.vA ((V).M).mem.vs.length ((V).M).mem.vc, .slice ((V).M).ln.fA ((V).M).ln.first.length ((V).M).ln.fc, .slice ((V).M).ln.lA ((V).M).ln.logs.length ((V).M).ln.lc, .map ((V).M).ln.asks, .slice ((V).M).sA ((V).M).steps.length ((V).M).sc, .int .i64 ((V).M).crashes, .slice (V).tA (V).ts.length (V).tc, .slice (V).sA (V).ss.length (V).sc]), .bool true]) (by simp [results, Tryz.results7, go_sem]; (try go_simp)) rfl ⟨V, rfl, Hsh.out V (by rw [HV1.out]; exact Hfr.out) HV2.out HV3.out, ?_, ?_⟩
   ·with_reducible exact HZ.out
   ·with_reducible exact HBB.out
structure MW.In (L th n : Nat) (q : MW) : Prop where
 hs : q.hs.length = L
 vs : q.vs.length = th
 hl : ∀ l ∈ q.hs, (0 < l.length ∧ l.length ≤ n + 1) ∧ ∀ p ∈ l, p.1.okW ∧ (0 ≤ p.2.1 ∧ p.2.1 ≤ (th : Int)) ∧ ∀ z, 0 ≤ p.2.2 z ∧ p.2.2 z ≤ (n : Int)
 vl : ∀ f ∈ q.vs, ∀ z, 0 ≤ f z ∧ f z ≤ (n : Int)
 lg : q.logs.length = (L + 7) / 8
 lgl : ∀ g ∈ q.logs, (0 ≤ g.1 ∧ g.1 ≤ (n : Int)) ∧ g.2.length ≤ n
 ak : ∀ t z, q.ak t z ≤ (n : Int)
theorem MW.In.fit {L th n : Nat} {q : MW} (h : q.In L th n) (h1 : 0 < L ∧ L ≤ 4096) (h2 : 0 < th ∧ th ≤ 8) (h3 : n ≤ 999) : q.Fit := by
 have e1 := h.hs
 have e2 := h.vs
 refine ⟨by omega, by omega, fun l hl => ?_, fun f hf z => ?_, by rw [h.lg, e1], fun g hg => ?_, fun t z => by have := h.ak t z; omega⟩
 ·obtain ⟨g1, g2⟩ := h.hl l hl
  refine ⟨by omega, fun p hp => ?_⟩
  obtain ⟨p1, p2, p3⟩ := g2 p hp
  exact ⟨p1, by omega, fun z => by have := p3 z; omega⟩
 ·have := h.vl f hf z
  omega
 ·have := h.lgl g hg
  omega
theorem withF_in {f : Int → Int} {n : Nat} {k i : Int} (hf : ∀ z, 0 ≤ f z ∧ f z ≤ (n : Int)) (h0 : 0 ≤ i) (h1 : i ≤ ((n + 1 : Nat) : Int)) : ∀ z, 0 ≤ withF f k i z ∧ withF f k i z ≤ ((n + 1 : Nat) : Int) := by
 intro z
 have h2 := hf z
 have h3 := hf k
 unfold withF upd
 split
 ·omega
 ·show 0 ≤ (if z = k then i else f z) ∧ (if z = k then i else f z) ≤ ((n + 1 : Nat) : Int)
  split
  ·omega
  ·omega
theorem joinF_in {f g : Int → Int} {n : Int} (hf : ∀ z, 0 ≤ f z ∧ f z ≤ n) (hg : ∀ z, 0 ≤ g z ∧ g z ≤ n) : ∀ z, 0 ≤ joinF f g z ∧ joinF f g z ≤ n := by
 intro z
 have h1 := hf z
 have h2 := hg z
 unfold joinF
 omega
theorem MW.In.up {L th n : Nat} {q : MW} (h : q.In L th n) : q.In L th (n + 1) := ⟨h.hs, h.vs, fun l hl => by
 obtain ⟨⟨u1, u2⟩, u3⟩ := h.hl l hl
 exact ⟨by omega, fun p hp => ⟨(u3 p hp).1, (u3 p hp).2.1, fun z => by have := (u3 p hp).2.2 z; omega⟩⟩, fun f hf z => by have := h.vl f hf z; omega, h.lg, fun g hg => by have := h.lgl g hg; omega, fun t z => by have := h.ak t z; omega⟩
theorem MW.In.see {L th n t : Nat} {q : MW} {f : Int → Int} (h : q.In L th n) (hf : ∀ z, 0 ≤ f z ∧ f z ≤ (n : Int)) : (q.seen t f).In L th n :=
 ⟨h.hs, by rw [← h.vs]; exact List.length_set, h.hl, fun g hg => by
  rcases List.mem_or_eq_of_mem_set hg with hm | rfl
  ·exact h.vl g hm
  ·exact hf, h.lg, h.lgl, h.ak⟩
theorem MW.In.write {L th n t k : Nat} {q : MW} {l : List Msg} {f fm : Int → Int} {x : W3} {lg : Lg} (h : q.In L th n) (ht : t < th) (hl : q.hs[k]? = some l) (hlg : q.logs[k / 8]? = some lg) (hf : ∀ z, 0 ≤ f z ∧ f z ≤ ((n + 1 : Nat) : Int)) (hm : ∀ z, 0 ≤ fm z ∧ fm z ≤ ((n + 1 : Nat) : Int)) (hx : x.okW) : (q.wrote t k l f fm x lg).In L th (n + 1) := by
 have u := h.up
 refine ⟨by rw [← h.hs]; exact List.length_set, by rw [← h.vs]; exact List.length_set, fun l' hl' => ?_, fun g hg => ?_, by rw [← h.lg]; exact List.length_set, fun g hg => ?_, u.ak⟩
 ·rcases List.mem_or_eq_of_mem_set hl' with h1 | rfl
  ·exact u.hl l' h1
  ·obtain ⟨⟨l0, l1⟩, hp⟩ := h.hl _ (List.mem_of_getElem? hl)
   refine ⟨by rw [List.length_append]; simp only [List.length_cons, List.length_nil]; omega, fun p hp2 => ?_⟩
   rcases List.mem_append.1 hp2 with hp3 | hp3
   ·exact (u.hl _ (List.mem_of_getElem? hl)).2 p hp3
   ·rw [List.mem_singleton] at hp3
    subst hp3
    exact ⟨hx, by show (0 : Int) ≤ (t : Int) + 1 ∧ (t : Int) + 1 ≤ th; omega, hm⟩
 ·rcases List.mem_or_eq_of_mem_set hg with h1 | rfl
  ·exact u.vl g h1
  ·exact hf
 ·rcases List.mem_or_eq_of_mem_set hg with h1 | rfl
  ·exact u.lgl g h1
  ·have hg3 := h.lgl _ (List.mem_of_getElem? hlg)
   refine ⟨by show (0 : Int) ≤ lg.1 ∧ lg.1 ≤ _; omega, ?_⟩
   show (lg.2 ++ [_]).length ≤ n + 1
   rw [List.length_append]
   simp only [List.length_cons, List.length_nil]
   omega
theorem okW0 : (⟨0, 0, 0⟩ : W3).okW := by unfold W3.okW; decide
theorem doq_in {L th n : Nat} {q : MW} {t : Nat} {a : ActV} {c : Int} (h : q.In L th n) (hn : a.new.okW) (ht : t < th) : (q.doq t a c).1.In L th (n + 1) ∧ (q.doq t a c).2.1.okW := by
 have u := h.up
 cases hgb : goodB q.hs.length a.op a.at_ with
 | false => rw [doq_bad hgb]; exact ⟨u, okW0⟩
 | true =>
  obtain ⟨h0, h8, hat⟩ := goodB_iff.1 hgb
  have e1 := h.hs
  have e2 := h.vs
  by_cases o0 : a.op = 0
  ·rw [doq_rest hgb o0]; exact ⟨u, okW0⟩
  by_cases o8 : a.op = 8
  ·rw [doq_sync hgb o8]
   refine ⟨⟨h.hs, h.vs, u.hl, u.vl, by rw [← h.lg]; simp [syncQ], fun g hg => ?_, fun t' z => ?_⟩, okW0⟩
   ·obtain ⟨i, hi⟩ := List.mem_iff_getElem?.1 hg
    have hi' : (syncQ (q.ak t) q.logs)[i]? = some g := hi
    unfold syncQ at hi'
    rw [List.getElem?_mapIdx, Option.map_eq_some_iff] at hi'
    obtain ⟨g0, hg0, rfl⟩ := hi'
    have b1 := h.lgl g0 (List.mem_of_getElem? hg0)
    have b2 := h.ak t i
    show (0 ≤ max g0.1 (q.ak t i) ∧ max g0.1 (q.ak t i) ≤ _) ∧ g0.2.length ≤ _
    omega
   ·show askZ q.ak t t' z ≤ _
    have := h.ak t' z
    unfold askZ
    split
    ·show (0 : Int) ≤ ((n + 1 : Nat) : Int)
     omega
    ·omega
  obtain ⟨k, hk⟩ : ∃ k : Nat, a.at_.toNat = k := ⟨_, rfl⟩
  have hkl : k < q.hs.length := by omega
  have htv : t < q.vs.length := by omega
  have hlgl : k / 8 < q.logs.length := by rw [h.lg]; omega
  have g1 := List.getElem?_eq_getElem hkl
  have g2 := List.getElem?_eq_getElem htv
  have g3 := List.getElem?_eq_getElem hlgl
  obtain ⟨⟨l0, l1⟩, hp⟩ := h.hl _ (List.getElem_mem hkl)
  have hv := h.vl _ (List.getElem_mem htv)
  have hb := hv k
  have hvu : ∀ z, 0 ≤ q.vs[t] z ∧ q.vs[t] z ≤ ((n + 1 : Nat) : Int) := fun z => by have := hv z; omega
  have hmu : ∀ p ∈ q.hs[k], ∀ z, 0 ≤ p.2.2 z ∧ p.2.2 z ≤ ((n + 1 : Nat) : Int) := fun p hp2 z => by have := (hp p hp2).2.2 z; omega
  have hci := choose_in (n := q.hs[k].length) (i := q.vs[t] k) (c := c) l0 hb.1
  obtain ⟨i, hi⟩ : ∃ i : Nat, (chooseL q.hs[k].length (q.vs[t] k) c).toNat = i := ⟨_, rfl⟩
  have hil : i < q.hs[k].length := by omega
  have hgi := List.getElem?_eq_getElem hil
  have hmi := List.getElem_mem hil
  obtain ⟨j, hj⟩ : ∃ j, q.hs[k].length = j + 1 := ⟨q.hs[k].length - 1, by omega⟩
  have hjl : j < q.hs[k].length := by omega
  have hgj := List.getElem?_eq_getElem hjl
  have hmj := List.getElem_mem hjl
  have w0 : ∀ z, 0 ≤ withF (fun _ => 0) k q.hs[k].length z ∧ withF (fun _ => 0) k q.hs[k].length z ≤ ((n + 1 : Nat) : Int) := withF_in (f := fun _ => 0) (fun z => ⟨Int.le_refl 0, by omega⟩) oM oM
  have w1 : ∀ z, 0 ≤ withF q.vs[t] k q.hs[k].length z ∧ withF q.vs[t] k q.hs[k].length z ≤ ((n + 1 : Nat) : Int) := withF_in hv oM oM
  have wj : ∀ z, 0 ≤ joinF (withF q.vs[t] k j) q.hs[k][j].2.2 z ∧ joinF (withF q.vs[t] k j) q.hs[k][j].2.2 z ≤ ((n + 1 : Nat) : Int) := joinF_in (withF_in hv oM oM) (hmu _ hmj)
  have wj0 : ∀ z, 0 ≤ joinF (withF q.vs[t] k j) q.hs[k][j].2.2 z ∧ joinF (withF q.vs[t] k j) q.hs[k][j].2.2 z ≤ ((n : Nat) : Int) := joinF_in (fun z => by
   have q1 := hv z
   have q2 := hv k
   unfold withF upd
   split
   ·omega
   ·show 0 ≤ (if z = k then (j : Int) else q.vs[t] z) ∧ (if z = k then (j : Int) else q.vs[t] z) ≤ (n : Int)
    split <;> omega) (fun z => (hp _ hmj).2.2 z)
  by_cases o1 : a.op = 1
  ·rw [doq_load hgb o1 hk g1 g2 hi hgi]; exact ⟨u.see (withF_in hv oM oM), (hp _ hmi).1⟩
  by_cases o2 : a.op = 2
  ·rw [doq_acq hgb o2 hk g1 g2 hi hgi]; exact ⟨u.see (joinF_in (withF_in hv oM oM) (hmu _ hmi)), (hp _ hmi).1⟩
  by_cases o5 : a.op = 5
  ·rw [doq_look hgb o5 hk g1 g2 hj hgj]; exact ⟨u.see wj, (hp _ hmj).1⟩
  by_cases o3 : a.op = 3
  ·rw [doq_store hgb o3 hk g1 g2 g3]; exact ⟨h.write ht g1 g3 w1 w0 hn, okW0⟩
  by_cases o4 : a.op = 4
  ·rw [doq_release hgb o4 hk g1 g2 g3]; exact ⟨h.write ht g1 g3 w1 w1 hn, okW0⟩
  by_cases o7 : a.op = 7
  ·rw [doq_flush hgb o7 hk g3]
   refine ⟨⟨h.hs, h.vs, u.hl, u.vl, h.lg, u.lgl, fun t' z => ?_⟩, okW0⟩
   show askP q.ak t ((k : Int) / 8) (q.logs[k / 8]).2.length t' z ≤ _
   have b1 := h.ak t' z
   have b2 := (h.lgl _ (List.getElem_mem hlgl)).2
   have b3 := h.ak t z
   unfold askP
   split
   ·show (if z = (k : Int) / 8 then ((q.logs[k / 8]).2.length : Int) else q.ak t z) ≤ ((n + 1 : Nat) : Int)
    split <;> omega
   ·omega
  ·have o6 : a.op = 6 := by omega
   rw [doq_swap hgb o6 hk g1 g2 g3 hj hgj]
   split
   ·have ws := withF_in (k := (k : Int)) (i := ((j + 1 : Nat) : Int)) wj0 oM oM
    exact ⟨h.write ht g1 g3 ws ws hn, (hp _ hmj).1⟩
   ·exact ⟨u.see wj, (hp _ hmj).1⟩
structure PW.In (L th n : Nat) (P : PW) : Prop where
 q : P.q.In L th n
 rg : P.rows.length = P.gots.length
 rs : P.ss.length = P.rows.length
 rt : P.rows.length = th
 gl : ∀ l ∈ P.gots, l.length ≤ n ∧ ∀ g ∈ l, (W3.mk g.v g.r g.f).okW
 rows : ∀ r ∈ P.rows, (r.l.length ≤ 100 ∧ r.i ≤ r.l.length) ∧ ∀ a ∈ r.l, (actP a).new.okW
theorem nx_in {L th n t : Nat} {P : PW} {a : AS} {c : Int} (h : P.In L th n) (ha : P.act t = some a) : (P.nx t a c).In L th (n + 1) := by
 obtain ⟨_, r, h1, h2⟩ := act_some ha
 have hr := h.rows r (List.mem_of_getElem? h1)
 have hac := hr.2 a (List.mem_of_getElem? h2)
 have ht : t < th := by rw [← h.rt]; exact (List.getElem?_eq_some_iff.1 h1).1
 obtain ⟨q1, q2⟩ := doq_in (c := c) h.q hac ht
 have hi := (List.getElem?_eq_some_iff.1 h2).1
 refine ⟨q1, ?_, ?_, ?_, fun l hl => ?_, fun r' hr' => ?_⟩
 ·show (P.rows.modify _ _).length = (P.gots.modify _ _).length
  rw [List.length_modify, List.length_modify]
  exact h.rg
 ·show P.ss.length = (P.rows.modify _ _).length
  rw [List.length_modify]
  exact h.rs
 ·show (P.rows.modify _ _).length = th
  rw [List.length_modify]
  exact h.rt
 ·obtain ⟨j, hj⟩ := List.mem_iff_getElem?.1 hl
  have hj' : (P.gots.modify t (fun gl => gl ++ [gotP (P.q.doq t (actP a) c)]))[j]? = some l := hj
  by_cases e : t = j
  ·rw [← e, mod_at] at hj'
   obtain ⟨gl, hgl, rfl⟩ := Option.map_eq_some_iff.1 hj'
   obtain ⟨u1, u2⟩ := h.gl gl (List.mem_of_getElem? hgl)
   refine ⟨by rw [List.length_append]; simp only [List.length_cons, List.length_nil]; omega, fun g hg => ?_⟩
   rcases List.mem_append.1 hg with hg | hg
   ·exact u2 g hg
   ·rw [List.mem_singleton] at hg
    subst hg
    exact q2
  ·rw [mod_ne _ e] at hj'
   obtain ⟨u1, u2⟩ := h.gl l (List.mem_of_getElem? hj')
   exact ⟨by omega, u2⟩
 ·obtain ⟨j, hj⟩ := List.mem_iff_getElem?.1 hr'
  have hj' : (P.rows.modify t RowP.nx)[j]? = some r' := hj
  by_cases e : t = j
  ·rw [← e, mod_at, h1] at hj'
   injection hj' with hj'
   subst hj'
   exact ⟨⟨hr.1.1, by show r.i + 1 ≤ r.l.length; omega⟩, hr.2⟩
  ·rw [mod_ne _ e] at hj'
   exact h.rows r' (List.mem_of_getElem? hj')
theorem next_in {L th n : Nat} {P : PW} {s : Nat × Nat} (h : P.In L th n) (hs : s.2 < P.ch s.1) : (P.next s).In L th (n + 1) := by
 obtain ⟨a, h1, h2⟩ := step_parts hs
 rw [h2]
 exact nx_in h h1
theorem PW.In.fit {L th n : Nat} {P : PW} (h : P.In L th n) (h1 : 0 < L ∧ L ≤ 4096) (h2 : 0 < th ∧ th ≤ 8) (h3 : n ≤ 999) (hk : P.keyP.length ≤ 140737488355328) (ho : P.outP.length ≤ 140737488355328) : P.Fit :=
 ⟨h.q.fit h1 h2 h3, h.rg, h.rs, by rw [h.rt, h.q.vs]; exact Nat.le_refl _, fun l hl => ⟨by have := (h.gl l hl).1; omega, (h.gl l hl).2⟩, hk, ho⟩
theorem PW0_in {ws : List W3} {x : ActsV} (hw : ∀ y ∈ ws, y.okW) (hx : ∀ k, k < 3 → (x.l k).length ≤ 100 ∧ ∀ a ∈ x.l k, (actP a).new.okW) : (PW0 ws x).In ws.length 3 0 := by
 refine ⟨⟨by simp [PW0], by simp [PW0], fun l hl => ?_, fun f hf => ?_, by simp [PW0], fun g hg => ?_, fun _ _ => Int.le_refl 0⟩, by simp [PW0], by simp [PW0], by simp [PW0], fun l hl => ?_, fun r hr => ?_⟩
 ·obtain ⟨y, hy, rfl⟩ := List.mem_map.1 (show l ∈ ws.map (fun y => [(y, (0 : Int), fun _ => (0 : Int))]) from hl)
  refine ⟨by simp, fun p hp => ?_⟩
  rw [List.mem_singleton] at hp
  subst hp
  exact ⟨hw y hy, ⟨Int.le_refl 0, by show (0 : Int) ≤ ((3 : Nat) : Int); decide⟩, fun z => ⟨Int.le_refl 0, Int.le_refl 0⟩⟩
 ·obtain rfl := List.eq_of_mem_replicate (show f ∈ List.replicate 3 (fun _ => (0 : Int)) from hf)
  exact fun z => ⟨Int.le_refl 0, Int.le_refl 0⟩
 ·obtain rfl := List.eq_of_mem_replicate (show g ∈ List.replicate ((ws.length + 7) / 8) ((0 : Int), ([] : List (Int × W3))) from hg)
  exact ⟨⟨Int.le_refl 0, Int.le_refl 0⟩, Nat.le_refl 0⟩
 ·obtain rfl := List.eq_of_mem_replicate (show l ∈ List.replicate 3 ([] : List GS) from hl)
  exact ⟨Nat.le_refl 0, fun g hg => by cases hg⟩
 ·obtain ⟨k, hk, rfl⟩ := List.mem_map.1 (show r ∈ (List.range 3).map (fun k => (⟨x.A k, x.c k, x.l k, 0⟩ : RowP)) from hr)
  obtain ⟨u1, u2⟩ := hx k (List.mem_range.1 hk)
  exact ⟨⟨u1, Nat.zero_le _⟩, u2⟩
end Go.Proofs.YtnnmenmifphadaaGreatDoor
