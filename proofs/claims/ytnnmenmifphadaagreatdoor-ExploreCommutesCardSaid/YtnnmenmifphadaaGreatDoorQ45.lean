/- Package word: Ref, Who, kind and Text at any word. -/
import Derived.Laws.BitsAllLaws
import Derived.Lib.ItoaLen
import Derived.Test.YtnnmenmifphadaaGreatDoorQ33
import Derived.Test.YtnnmenmifphadaaGreatDoorQ43
import Derived.Test.YtnnmenmifphadaaGreatDoorQ44
set_option linter.unusedSimpArgs false
set_option linter.unusedVariables false
set_option maxRecDepth 100000
set_option maxHeartbeats 40000000
namespace Go.Proofs.YtnnmenmifphadaaGreatDoor
open Go.RowKit Go.Maps Go.Sort
theorem word_ref_ok (h s : Int) (w : World) (h1 : 1 ≤ h) (h2 : h ≤ 72) (s1 : 1 ≤ s) (s2 : s ≤ 16777215) : Calls Tryz.prog 118 #[.int .i64 h, .int .i64 s] w fun e w' => (∃ x : Int, e = .returned (.tuple #[.int .u32 x, .int .i64 0])) ∧ w' = w := by
 have a1 : ¬ (h < 1) := by omega
 have a2 : ¬ (h > 72) := by omega
 have a2' : ¬ (72 < h) := by omega
 have a3 : ¬ (s < 1) := by omega
 have a4 : ¬ (s > 16777215) := by omega
 have a4' : ¬ (16777215 < s) := by omega
 go_enter Tryz.func118, Tryz.ntmps118
 go_wp2_with fail
 go_ret2
 exact ⟨⟨_, rfl⟩, rfl⟩
theorem word_ref_no (h s : Int) (w : World) (hh : h < 1 ∨ 72 < h ∨ s < 1) (h0 : 0 ≤ h) (s0 : 0 ≤ s) : Calls Tryz.prog 118 #[.int .i64 h, .int .i64 s] w fun e w' => e = .returned (.tuple #[.int .u32 0, .int .i64 3]) ∧ w' = w := by
 by_cases a1 : h < 1
 ·clear hh
  go_enter Tryz.func118, Tryz.ntmps118
  go_wp2_with fail
  exact bodyPost_ret (v := .tuple #[.int .u32 0, .int .i64 3]) (by simp [results, Tryz.results118, go_sem]) rfl ⟨rfl, rfl⟩
 ·by_cases a2 : 72 < h
  ·have a2' : h > 72 := a2
   clear hh
   go_enter Tryz.func118, Tryz.ntmps118
   go_wp2_with fail
   exact bodyPost_ret (v := .tuple #[.int .u32 0, .int .i64 3]) (by simp [results, Tryz.results118, go_sem]) rfl ⟨rfl, rfl⟩
  ·have a3 : s < 1 := by omega
   have a2' : ¬ (h > 72) := a2
   clear hh
   go_enter Tryz.func118, Tryz.ntmps118
   go_wp2_with fail
   exact bodyPost_ret (v := .tuple #[.int .u32 0, .int .i64 3]) (by simp [results, Tryz.results118, go_sem]) rfl ⟨rfl, rfl⟩
theorem and24 (n : Nat) (hn : n < 4294967296) : bits .and .u32 (n : Int) 16777215 = ((n % 16777216 : Nat) : Int) := by
 have q := u32_and_nat n 16777215 hn dM
 rw [show ((16777215 : Nat) : Int) = 16777215 from rfl] at q
 rw [q, show (16777215 : Nat) = 2 ^ 24 - 1 from rfl, Nat.and_two_pow_sub_one_eq_mod]
theorem word_who (f : Int) (w : World) (f0 : 0 ≤ f) (f1 : f < 4294967296) : Calls Tryz.prog 72 #[.int .u32 f] w fun e w' => e = .returned (.tuple #[.int .i64 (whoP f).1, .int .i64 (whoP f).2]) ∧ w' = w := by
 obtain ⟨n, rfl⟩ : ∃ n : Nat, f = n := ⟨f.toNat, by omega⟩
 have ha := and24 n oM
 obtain ⟨h, hh⟩ : ∃ h : Int, (n : Int) / 16777216 = h := ⟨_, rfl⟩
 obtain ⟨s, hs⟩ : ∃ s : Int, ((n % 16777216 : Nat) : Int) = s := ⟨_, rfl⟩
 rw [hs] at ha
 have hb : 0 ≤ h ∧ h < 256 := by omega
 have sb : 0 ≤ s ∧ s ≤ 16777215 := by omega
 have hw1 : IntKind.i64.wrap h = h := IntWalk.i64_in _ oM
 have hw2 : IntKind.i64.wrap s = s := IntWalk.i64_in _ oM
 have hp : whoP (n : Int) = if 1 ≤ h ∧ h ≤ 72 ∧ 1 ≤ s then (h, s) else (0, 0) := by
  unfold whoP
  rw [show (n : Int) % 16777216 = s by omega, hh]
 rw [hp]
 by_cases hg : 1 ≤ h ∧ h ≤ 72 ∧ 1 ≤ s
 ·rw [if_pos hg]
  have Hr := hide (fun W => word_ref_ok h s W hg.1 hg.2.1 hg.2.2 sb.2)
  clear hg hb sb hp hs f0 f1
  go_enter Tryz.func72, Tryz.ntmps72
  go_wp2_with (first
   | (go_at_call 118; refine (Hr.out _).mono ?_; rintro e w1 ⟨⟨x, rfl⟩, rfl⟩))
  exact bodyPost_ret (v := .tuple #[.int .i64 h, .int .i64 s]) (by simp [results, Tryz.results72, go_sem]) rfl ⟨rfl, rfl⟩
 ·rw [if_neg hg]
  have Hr := hide (fun W => word_ref_no h s W oM hb.1 sb.1)
  clear hg hb sb hp hs f0 f1
  go_enter Tryz.func72, Tryz.ntmps72
  go_wp2_with (first
   | (go_at_call 118; refine (Hr.out _).mono ?_; rintro e w1 ⟨rfl, rfl⟩))
  exact bodyPost_ret (v := .tuple #[.int .i64 0, .int .i64 0]) (by simp [results, Tryz.results72, go_sem]) rfl ⟨rfl, rfl⟩
def kindP (f : Int) : Int := if f = 0 then 0 else if 0 < (whoP f).1 then 1 else 2
theorem word_kind (x : W3) (w : World) (hx : x.okW) : Calls Tryz.prog 69 #[(w3V x)] w (Ret (.int .i64 (kindP x.f)) w) := by
 try unfold w3V
 obtain ⟨v, r, f⟩ := x
 obtain ⟨-, -, f0, f1⟩ := hx
 simp only at f0 f1 ⊢
 have hwho := fun W => word_who f W f0 oM
 obtain ⟨h, s, hp⟩ : ∃ h s, whoP f = (h, s) := ⟨_, _, rfl⟩
 unfold kindP
 rw [hp] at hwho ⊢
 simp only at hwho ⊢
 have Hwho := hide hwho
 clear hwho hp f0 f1
 by_cases e0 : f = 0
 ·subst e0
  rw [if_pos rfl]
  go_enter Tryz.func69, Tryz.ntmps69
  go_wp2_with (first
   | (go_at_call 72; refine (Hwho.out _).mono ?_; rintro e w1 ⟨rfl, rfl⟩))
  go_ret
  exact ⟨rfl, ab0⟩
 ·rw [if_neg e0]
  have e1 : (f == 0) = false := by simpa using e0
  by_cases e2 : 0 < h
  ·rw [if_pos e2]
   have e3 : h > 0 := e2
   go_enter Tryz.func69, Tryz.ntmps69
   go_wp2_with (first
    | (go_at_call 72; refine (Hwho.out _).mono ?_; rintro e w1 ⟨rfl, rfl⟩))
   go_ret
   exact ⟨rfl, ab0⟩
  ·rw [if_neg e2]
   have e3 : ¬ (h > 0) := e2
   go_enter Tryz.func69, Tryz.ntmps69
   go_wp2_with (first
    | (go_at_call 72; refine (Hwho.out _).mono ?_; rintro e w1 ⟨rfl, rfl⟩))
   go_ret
   exact ⟨rfl, ab0⟩
theorem whoP_in (f : Int) (f0 : 0 ≤ f) (f1 : f < 4294967296) : (0 ≤ (whoP f).1 ∧ (whoP f).1 ≤ 72) ∧ 0 ≤ (whoP f).2 ∧ (whoP f).2 ≤ 16777215 := by
 unfold whoP
 split
 ·simp only
  omega
 ·simp
theorem itoa_at (z : Int) (h0 : -9223372036854775808 ≤ z) (h1 : z ≤ 9223372036854775807) (w : World) (htab : Tab w) : Calls Tryz.prog 73 #[.int .i64 z] w (Ret (.string ⟨(Lib.itoa z).toArray⟩) w) := by
 refine (Tryz.strconv_Itoa z h0 h1 w htab).mono ?_
 rintro e w' ⟨he, k, os, rfl⟩
 exact ⟨he, Lib.below_grow _ _ (Nat.le_refl _) _ _⟩
theorem textW_eq (x : W3) {S R H Q : List UInt8} {h s : Int} (eS : Lib.itoa x.v = S) (eR : Lib.itoa x.r = R) (ep : whoP x.f = (h, s)) (eH : Lib.itoa h = H) (eQ : Lib.itoa s = Q) : textW x = if x.f ≠ 0 ∧ h ≤ 0 then [] else S ++ (if x.r ≠ 0 ∨ x.f ≠ 0 then [46] ++ R else []) ++ (if x.f ≠ 0 then [35] ++ H ++ [58] ++ Q else []) := by
 unfold textW
 rw [ep, eS, eR]
 simp only
 rw [eH, eQ]
theorem text_any (x : W3) (w : World) (hx : x.okW) (htab : Tab w) (hg0 : 0 < w.heap.size) :
  Calls Tryz.prog 33 #[(w3V x)] w (Ret (.string ⟨(textW x).toArray⟩) w) := by
 try unfold w3V
 have hk := fun W => word_kind x W hx
 obtain ⟨⟨v0, v1⟩, ⟨r0, r1⟩, f0, f1⟩ := hx
 have hT := fun W (hW : Below w.heap.size w W) => htab.below (N := w.heap.size) hW hg0
 have hi := fun W (hW : Below w.heap.size w W) => fmt_int x.v W v0 v1 (hT W hW)
 have hu := fun W (hW : Below w.heap.size w W) => fmt_uint x.r r0 oM W (hT W hW)
 have hwho := fun W => word_who x.f W f0 oM
 obtain ⟨⟨p0, p1⟩, p2, p3⟩ := whoP_in x.f f0 oM
 have hhh := fun W (hW : Below w.heap.size w W) => itoa_at (whoP x.f).1 oM oM W (hT W hW)
 have hqq := fun W (hW : Below w.heap.size w W) => itoa_at (whoP x.f).2 oM oM W (hT W hW)
 have lS := Lib.itoa_length_le x.v v0 v1
 have lR := Lib.itoa_length_le x.r oM oM
 have lH := Lib.itoa_length_le (whoP x.f).1 oM oM
 have lQ := Lib.itoa_length_le (whoP x.f).2 oM oM
 obtain ⟨⟨h, s⟩, ep⟩ : ∃ p, whoP x.f = p := ⟨_, rfl⟩
 unfold kindP at hk
 rw [ep] at hwho hhh hqq lH lQ hk
 simp only at hwho hhh hqq lH lQ hk
 obtain ⟨S, eS⟩ : ∃ S, Lib.itoa x.v = S := ⟨_, rfl⟩
 obtain ⟨R, eR⟩ : ∃ R, Lib.itoa x.r = R := ⟨_, rfl⟩
 obtain ⟨H, eH⟩ : ∃ H, Lib.itoa h = H := ⟨_, rfl⟩
 obtain ⟨Q, eQ⟩ : ∃ Q, Lib.itoa s = Q := ⟨_, rfl⟩
 rw [textW_eq x eS eR ep eH eQ]
 rw [eS] at hi lS
 rw [eR] at hu lR
 rw [eH] at hhh lH
 rw [eQ] at hqq lQ
 have Hi := hide hi
 have Hu := hide hu
 have Hw := hide hwho
 have Hh := hide hhh
 have Hq := hide hqq
 obtain ⟨v, r, f⟩ := x
 simp only at Hi Hu Hw Hh Hq hk ⊢
 have hws : IntKind.u64.wrap r = r := by rw [IntKind.wrap_u64]; simp only at r0 r1; omega
 clear hi hu hwho hhh hqq hT htab p0 p1 p2 p3 v0 v1 r0 r1 f0 f1 eS eR eH eQ ep
 by_cases e0 : f = 0
 ·subst e0
  have Hk := hide hk
  clear hk
  simp only [ne_eq, not_true_eq_false, false_and, if_false, or_false, List.append_nil, if_true] at Hk ⊢
  by_cases e1 : r = 0
  ·subst e1
   simp only [ne_eq, not_true_eq_false, if_false, List.append_nil]
   go_enter Tryz.func33, Tryz.ntmps33
   go_wp2_with (first
    | (go_at_call 69; refine (Hk.out _).mono ?_; rintro e w1 ⟨rfl, hb1⟩; obtain ⟨hcc1, hff1, hs1⟩ := bC hb1; (try simp at hs1); have hz1 : w.heap.size < w1.heap.size := oM)
    | (go_at_call 70; refine (Hi.out _ ab0).mono ?_; rintro e w2 ⟨rfl, hb2⟩; obtain ⟨hcc2, hff2, hs2⟩ := bC hb2; (try simp at hs2); have hz2 : w.heap.size < w2.heap.size := oM)
    | (go_at_call 71; refine (Hu.out _ ab0).mono ?_; rintro e w3 ⟨rfl, hb3⟩; obtain ⟨hcc3, hff3, hs3⟩ := bC hb3; (try simp at hs3); have hz3 : w.heap.size < w3.heap.size := oM)
    | (go_at_call 72; refine (Hw.out _).mono ?_; rintro e w4 ⟨rfl, rfl⟩)
    | (go_at_call 73; refine (Hh.out _ ab0).mono ?_; rintro e w5 ⟨rfl, hb5⟩; obtain ⟨hcc5, hff5, hs5⟩ := bC hb5; (try simp at hs5); have hz5 : w.heap.size < w5.heap.size := oM)
    | (go_at_call 73; refine (Hq.out _ ab0).mono ?_; rintro e w6 ⟨rfl, hb6⟩; obtain ⟨hcc6, hff6, hs6⟩ := bC hb6; (try simp at hs6); have hz6 : w.heap.size < w6.heap.size := oM))
   go_ret
   exact ⟨by simp [ByteArray.mk_append_mk], ab0⟩
  ·have e2 : (r != 0) = true := by simpa using e1
   simp only [ne_eq, e1, not_false_eq_true, if_true]
   go_enter Tryz.func33, Tryz.ntmps33
   go_wp2_with (first
    | (go_at_call 69; refine (Hk.out _).mono ?_; rintro e w1 ⟨rfl, hb1⟩; obtain ⟨hcc1, hff1, hs1⟩ := bC hb1; (try simp at hs1); have hz1 : w.heap.size < w1.heap.size := oM)
    | (go_at_call 70; refine (Hi.out _ ab0).mono ?_; rintro e w2 ⟨rfl, hb2⟩; obtain ⟨hcc2, hff2, hs2⟩ := bC hb2; (try simp at hs2); have hz2 : w.heap.size < w2.heap.size := oM)
    | (go_at_call 71; refine (Hu.out _ ab0).mono ?_; rintro e w3 ⟨rfl, hb3⟩; obtain ⟨hcc3, hff3, hs3⟩ := bC hb3; (try simp at hs3); have hz3 : w.heap.size < w3.heap.size := oM)
    | (go_at_call 72; refine (Hw.out _).mono ?_; rintro e w4 ⟨rfl, rfl⟩)
    | (go_at_call 73; refine (Hh.out _ ab0).mono ?_; rintro e w5 ⟨rfl, hb5⟩; obtain ⟨hcc5, hff5, hs5⟩ := bC hb5; (try simp at hs5); have hz5 : w.heap.size < w5.heap.size := oM)
    | (go_at_call 73; refine (Hq.out _ ab0).mono ?_; rintro e w6 ⟨rfl, hb6⟩; obtain ⟨hcc6, hff6, hs6⟩ := bC hb6; (try simp at hs6); have hz6 : w.heap.size < w6.heap.size := oM))
   go_ret
   exact ⟨by simp [ByteArray.mk_append_mk], ab0⟩
 ·simp only [e0, if_false] at hk
  by_cases e3 : 0 < h
  ·rw [if_pos e3] at hk
   have Hk := hide hk
   clear hk
   rw [if_neg oM, if_pos (Or.inr e0), if_pos e0]
   by_cases e1 : r = 0
   ·subst e1
    clear e3
    go_enter Tryz.func33, Tryz.ntmps33
    go_wp2_with (first
     | (go_at_call 69; refine (Hk.out _).mono ?_; rintro e w1 ⟨rfl, hb1⟩; obtain ⟨hcc1, hff1, hs1⟩ := bC hb1; (try simp at hs1); have hz1 : w.heap.size < w1.heap.size := oM)
     | (go_at_call 70; refine (Hi.out _ ab0).mono ?_; rintro e w2 ⟨rfl, hb2⟩; obtain ⟨hcc2, hff2, hs2⟩ := bC hb2; (try simp at hs2); have hz2 : w.heap.size < w2.heap.size := oM)
     | (go_at_call 71; refine (Hu.out _ ab0).mono ?_; rintro e w3 ⟨rfl, hb3⟩; obtain ⟨hcc3, hff3, hs3⟩ := bC hb3; (try simp at hs3); have hz3 : w.heap.size < w3.heap.size := oM)
     | (go_at_call 72; refine (Hw.out _).mono ?_; rintro e w4 ⟨rfl, rfl⟩)
     | (go_at_call 73; refine (Hh.out _ ab0).mono ?_; rintro e w5 ⟨rfl, hb5⟩; obtain ⟨hcc5, hff5, hs5⟩ := bC hb5; (try simp at hs5); have hz5 : w.heap.size < w5.heap.size := oM)
     | (go_at_call 73; refine (Hq.out _ ab0).mono ?_; rintro e w6 ⟨rfl, hb6⟩; obtain ⟨hcc6, hff6, hs6⟩ := bC hb6; (try simp at hs6); have hz6 : w.heap.size < w6.heap.size := oM))
    go_ret
    exact ⟨by simp [ByteArray.mk_append_mk], ab0⟩
   ·have e2 : (r != 0) = true := by simpa using e1
    clear e3
    go_enter Tryz.func33, Tryz.ntmps33
    go_wp2_with (first
     | (go_at_call 69; refine (Hk.out _).mono ?_; rintro e w1 ⟨rfl, hb1⟩; obtain ⟨hcc1, hff1, hs1⟩ := bC hb1; (try simp at hs1); have hz1 : w.heap.size < w1.heap.size := oM)
     | (go_at_call 70; refine (Hi.out _ ab0).mono ?_; rintro e w2 ⟨rfl, hb2⟩; obtain ⟨hcc2, hff2, hs2⟩ := bC hb2; (try simp at hs2); have hz2 : w.heap.size < w2.heap.size := oM)
     | (go_at_call 71; refine (Hu.out _ ab0).mono ?_; rintro e w3 ⟨rfl, hb3⟩; obtain ⟨hcc3, hff3, hs3⟩ := bC hb3; (try simp at hs3); have hz3 : w.heap.size < w3.heap.size := oM)
     | (go_at_call 72; refine (Hw.out _).mono ?_; rintro e w4 ⟨rfl, rfl⟩)
     | (go_at_call 73; refine (Hh.out _ ab0).mono ?_; rintro e w5 ⟨rfl, hb5⟩; obtain ⟨hcc5, hff5, hs5⟩ := bC hb5; (try simp at hs5); have hz5 : w.heap.size < w5.heap.size := oM)
     | (go_at_call 73; refine (Hq.out _ ab0).mono ?_; rintro e w6 ⟨rfl, hb6⟩; obtain ⟨hcc6, hff6, hs6⟩ := bC hb6; (try simp at hs6); have hz6 : w.heap.size < w6.heap.size := oM))
    go_ret
    exact ⟨by simp [ByteArray.mk_append_mk], ab0⟩
  ·rw [if_neg e3] at hk
   have Hk := hide hk
   clear hk
   rw [if_pos ⟨e0, by omega⟩]
   clear e3
   go_enter Tryz.func33, Tryz.ntmps33
   go_wp2_with (first
    | (go_at_call 69; refine (Hk.out _).mono ?_; rintro e w1 ⟨rfl, hb1⟩; obtain ⟨hcc1, hff1, hs1⟩ := bC hb1; (try simp at hs1); have hz1 : w.heap.size < w1.heap.size := oM)
    | (go_at_call 70; refine (Hi.out _ ab0).mono ?_; rintro e w2 ⟨rfl, hb2⟩; obtain ⟨hcc2, hff2, hs2⟩ := bC hb2; (try simp at hs2); have hz2 : w.heap.size < w2.heap.size := oM)
    | (go_at_call 71; refine (Hu.out _ ab0).mono ?_; rintro e w3 ⟨rfl, hb3⟩; obtain ⟨hcc3, hff3, hs3⟩ := bC hb3; (try simp at hs3); have hz3 : w.heap.size < w3.heap.size := oM)
    | (go_at_call 72; refine (Hw.out _).mono ?_; rintro e w4 ⟨rfl, rfl⟩)
    | (go_at_call 73; refine (Hh.out _ ab0).mono ?_; rintro e w5 ⟨rfl, hb5⟩; obtain ⟨hcc5, hff5, hs5⟩ := bC hb5; (try simp at hs5); have hz5 : w.heap.size < w5.heap.size := oM)
    | (go_at_call 73; refine (Hq.out _ ab0).mono ?_; rintro e w6 ⟨rfl, hb6⟩; obtain ⟨hcc6, hff6, hs6⟩ := bC hb6; (try simp at hs6); have hz6 : w.heap.size < w6.heap.size := oM))
   go_ret
   exact ⟨by simp [ByteArray.mk_append_mk], ab0⟩
def chA (q : MW) (t : Nat) (a : AS) : Nat := if (a.o = 1 ∨ a.o = 2) ∧ 0 ≤ a.l ∧ a.l < (q.hs.length : Int) then (chN (q.hs.getD a.l.toNat []).length (q.vs.getD t (fun _ => 0) a.l)).toNat else 1
def PW.ch (P : PW) (t : Nat) : Nat := match P.act t with
 | none => 0
 | some a => chA P.q t a
def PW.cs (P : PW) : List Nat := (List.range P.rows.length).map P.ch
def PW.next (P : PW) (s : Nat × Nat) : PW := match P.act s.1 with
 | none => P
 | some a => P.nx s.1 a s.2
theorem act_none {P : PW} {t : Nat} (h : P.rows.length ≤ t) : P.act t = none := by
 unfold PW.act
 split
 ·rfl
 ·rw [List.getElem?_eq_none_iff.2 h]
  rfl
theorem chA_pos (q : MW) (t : Nat) (a : AS) : 0 < chA q t a := by
 unfold chA
 split
 ·unfold chN; omega
 ·omega
def RowsB (B0 : Nat) (w : World) (P : PW) : Prop := ∀ r ∈ P.rows, Rd w B0 8 r.A r.l.length (r.l.flatMap actc)
def rowsE (Ok : PW → Prop) (B0 : Nat) : Expl PW where
 Rep := fun V P => Shows V P ∧ V.M.mem.hs.length ≤ 4096
 Inv := fun w P => Ok P ∧ RowsB B0 w P ∧ Tab w ∧ B0 ≤ w.heap.size
 key := PW.keyP
 out := PW.outP
 cs := PW.cs
 next := PW.next
theorem cs_at {P : PW} {t : Nat} (h : t < P.rows.length) : P.cs[t]? = some (P.ch t) := by
 unfold PW.cs
 rw [List.getElem?_map, List.getElem?_range h]
 rfl
theorem cs_len (P : PW) : P.cs.length = P.rows.length := by simp [PW.cs]
theorem cs_getD (P : PW) (t : Nat) : P.cs.getD t 0 = P.ch t := by
 rw [List.getD_eq_getElem?_getD]
 by_cases h : t < P.rows.length
 ·rw [cs_at h]; rfl
 ·rw [List.getElem?_eq_none_iff.2 (by rw [cs_len]; omega)]
  unfold PW.ch
  rw [act_none oM]
  rfl
theorem stp_mem {P : PW} {k : Nat} {s : Nat × Nat} (h : s ∈ stpTo P.cs k) : s.2 < P.ch s.1 := by
 unfold stpTo at h
 rw [List.mem_flatMap] at h
 obtain ⟨t, _, h2⟩ := h
 rw [List.mem_map] at h2
 obtain ⟨c, h3, rfl⟩ := h2
 rw [List.mem_range, cs_getD] at h3
 exact h3
theorem stp_len {cs : List Nat} {n : Nat} (h : ∀ x ∈ cs, x ≤ n) (k : Nat) : (stpTo cs k).length ≤ n * min k cs.length := by
 induction k with
 | zero => simp [stpTo]
 | succ k ih =>
  rw [stpTo_succ, List.length_append, List.length_map, List.length_range]
  by_cases hk : k < cs.length
  ·have h1 : cs.getD k 0 ≤ n := by
    rw [List.getD_eq_getElem?_getD, List.getElem?_eq_getElem hk]
    exact h _ (List.getElem_mem hk)
   rw [show min (k + 1) cs.length = min k cs.length + 1 by omega, Nat.mul_succ]
   omega
  ·rw [List.getD_eq_getElem?_getD, List.getElem?_eq_none_iff.2 oM, show min (k + 1) cs.length = min k cs.length by omega]
   exact ih
theorem vs_at {q : MW} (hf : q.Fit) (t : Nat) (z : Int) : 0 ≤ q.vs.getD t (fun _ => 0) z ∧ q.vs.getD t (fun _ => 0) z ≤ 1000000 := by
 rw [List.getD_eq_getElem?_getD]
 cases h : q.vs[t]? with
 | none => simp
 | some f => exact hf.vl f (List.mem_of_getElem? h) z
theorem hs_at {q : MW} (hf : q.Fit) (k : Nat) : (q.hs.getD k []).length ≤ 1000 := by
 rw [List.getD_eq_getElem?_getD]
 cases h : q.hs[k]? with
 | none => simp
 | some l => exact (hf.hl l (List.mem_of_getElem? h)).1.2
theorem ch_le {P : PW} (hf : P.Fit) (t : Nat) : P.ch t ≤ 1000 := by
 unfold PW.ch
 split
 ·omega
 ·rename_i a _
  unfold chA
  split
  ·have h1 := hs_at hf.q a.l.toNat
   have h2 := vs_at hf.q t a.l
   unfold chN
   omega
  ·omega
theorem cs_le {P : PW} (hf : P.Fit) : ∀ x ∈ P.cs, x ≤ 1000 := by
 intro x hx
 unfold PW.cs at hx
 rw [List.mem_map] at hx
 obtain ⟨t, _, rfl⟩ := hx
 exact ch_le hf t
theorem steps_le {P : PW} (hf : P.Fit) (k : Nat) : (stpTo P.cs k).length ≤ 1000000 := by
 have h1 := stp_len (cs_le hf) k
 rw [cs_len] at h1
 have h2 := hf.rt
 have h3 := hf.q.th
 omega
theorem step_parts {P : PW} {s : Nat × Nat} (h : s.2 < P.ch s.1) : ∃ a, P.act s.1 = some a ∧ P.next s = P.nx s.1 a s.2 := by
 unfold PW.ch at h
 unfold PW.next
 cases ha : P.act s.1 with
 | none => rw [ha] at h; simp at h
 | some a => exact ⟨a, rfl, rfl⟩
theorem rows_next {P : PW} {s : Nat × Nat} (h : s.2 < P.ch s.1) {B0 : Nat} {w : World} (hr : RowsB B0 w P) : RowsB B0 w (P.next s) := by
 obtain ⟨a, _, h4⟩ := step_parts h
 rw [h4]
 intro r' hr'
 obtain ⟨j, hj⟩ := List.mem_iff_getElem?.1 hr'
 have hj' : (P.rows.modify s.1 RowP.nx)[j]? = some r' := hj
 by_cases e : s.1 = j
 ·rw [← e, mod_at] at hj'
  obtain ⟨r0, hr0, rfl⟩ := Option.map_eq_some_iff.1 hj'
  exact hr r0 (List.mem_of_getElem? hr0)
 ·rw [mod_ne _ e] at hj'
  exact hr r' (List.mem_of_getElem? hj')
theorem doq_hs (q : MW) (t : Nat) (a : ActV) (c : Int) : (q.doq t a c).1.hs.length = q.hs.length := by
 unfold MW.doq
 simp only
 repeat' split
 all_goals first
  | rfl
  | exact List.length_set
theorem words_at {m : MachV} {q : MW} (h : MShows m q) (hf : q.Fit) {k : Nat} {x : W3} (hx : q.words[k]? = some x) : ∃ (hi : HistV) (j : Nat) (g : MsgV), m.mem.hs[k]? = some hi ∧ hi.l.length = j + 1 ∧ j ≤ 1000000 ∧ hi.l[j]? = some g ∧ g.x = x ∧ x.okW := by
 unfold MW.words at hx
 rw [List.getElem?_map, Option.map_eq_some_iff] at hx
 obtain ⟨l, hl, e⟩ := hx
 obtain ⟨hi, hh, hl2⟩ := map_at h.1 hl
 obtain ⟨⟨n0, n1⟩, hp⟩ := hf.hl l (List.mem_of_getElem? hl)
 have hlen : hi.l.length = l.length := map_len hl2
 have hj : l.length - 1 < hi.l.length := by omega
 refine ⟨hi, l.length - 1, hi.l[l.length - 1], hh, by omega, by omega, List.getElem?_eq_getElem hj, ?_, ?_⟩
 ·have e9 : (hi.l.map msgP)[l.length - 1]? = some (msgP hi.l[l.length - 1]) := by rw [List.getElem?_map, List.getElem?_eq_getElem hj]; rfl
  rw [hl2] at e9
  rw [← e, List.getLast?_eq_getElem?, e9]
  rfl
 ·rw [← e, List.getLast?_eq_getElem?, List.getElem?_eq_getElem (show l.length - 1 < l.length by omega)]
  exact (hp _ (List.getElem_mem (show l.length - 1 < l.length by omega))).1
theorem words_okW {q : MW} (hf : q.Fit) : ∀ x ∈ q.words, x.okW := by
 intro x hx
 unfold MW.words at hx
 rw [List.mem_map] at hx
 obtain ⟨l, hl, e⟩ := hx
 obtain ⟨⟨n0, n1⟩, hp⟩ := hf.hl l hl
 rw [← e, List.getLast?_eq_getElem?, List.getElem?_eq_getElem (show l.length - 1 < l.length by omega)]
 exact (hp _ (List.getElem_mem (show l.length - 1 < l.length by omega))).1
theorem pend_row {V : WorldV} {P : PW} (hS : Shows V P) (hf : P.Fit) (hns : ∀ b ∈ P.ss, b = false) (k n : Nat) (hn : P.cs[k]? = some n) : ∃ a, Pend V k n a := by
 have hk : k < P.rows.length := by have := (List.getElem?_eq_some_iff.1 hn).1; rwa [cs_len] at this
 rw [cs_at hk] at hn
 injection hn with hn
 obtain ⟨s1, s2, s3, s4, s6, s5⟩ := hS
 obtain ⟨m1, m2, m3, m4, m5, m6⟩ := s1
 have hth := hf.q.th
 have hrt := hf.rt
 have hhs := hf.q.hs
 have hr := List.getElem?_eq_getElem hk
 have hkt : k < V.ts.length := by omega
 have hkk := List.getElem?_eq_getElem hkt
 have hks : k < P.ss.length := by omega
 have hps : P.ss[k]? = some false := by rw [List.getElem?_eq_getElem hks, hns _ (List.getElem_mem hks)]
 have hss : V.ss[k]? = some false := by rw [s3]; exact hps
 have hrow := s5 k _ _ hkk hr
 have hact : P.act k = (P.rows[k]).l[(P.rows[k]).i]? := by
  unfold PW.act
  rw [getD_at hps, hr]
  rfl
 cases ha : (P.rows[k]).l[(P.rows[k]).i]? with
 | none =>
  have h0 : n = 0 := by rw [← hn]; unfold PW.ch; rw [hact, ha]
  subst h0
  refine ⟨V.ts[k].a, fun W hR => ?_, fun h => absurd h (Nat.lt_irrefl 0)⟩
  refine ex_pending V k _ false W hR hkk oM hss (fun W2 => ?_)
  have hd : (rowS (P.rows[k]).A (P.rows[k]).cap (P.rows[k]).l (P.rows[k]).i).2.2 = true := by unfold rowS; rw [ha]
  unfold RT at hrow
  rw [hd] at hrow
  obtain ⟨h1, ⟨h2, _, _⟩ | ⟨_, h3, h4⟩⟩ := hrow
  ·cases h2
  ·have q := act_yes (V.ts[k]).c (V.ts[k]).a (V.ts[k]).A (V.ts[k]).m (V.ts[k]).cp W2
   rw [← h4] at q
   exact q
 | some a =>
  have hch : n = chA P.q k a := by
   rw [← hn]
   unfold PW.ch
   rw [hact, ha]
  have hpos : 0 < n := by rw [hch]; exact chA_pos _ _ _
  have hka := fun W => (rt_act hrow ha W)
  refine ⟨a, fun W hR => ?_, fun _ W hR => ?_⟩
  ·rw [decide_eq_true hpos]
   have q := ex_pending V k _ true W hR hkk oM hss (fun W2 => (hka W2).2)
   rw [(hka W).1] at q
   exact q
  ·rw [hch]
   have l1 := map_len m1
   have l2 := map_len m2
   unfold chA
   by_cases h12 : a.o = 1 ∨ a.o = 2
   ·by_cases hin : 0 ≤ a.l ∧ a.l < (P.q.hs.length : Int)
    ·rw [if_pos ⟨h12, hin⟩]
     have hkl : a.l.toNat < P.q.hs.length := by omega
     have hkv : k < P.q.vs.length := by omega
     have g1 := List.getElem?_eq_getElem hkl
     have g2 := List.getElem?_eq_getElem hkv
     obtain ⟨h, hh, e1⟩ := map_at m1 g1
     obtain ⟨v, hv, e2⟩ := map_at m2 g2
     have hvl := hf.q.vl _ (List.getElem_mem hkv)
     have l3 := map_len e1
     obtain ⟨hl0, hl1⟩ := (hf.q.hl _ (List.getElem_mem hkl)).1
     have e3 : ((a.l.toNat : Nat) : Int) = a.l := by omega
     have e4 : (((chN h.l.length (v.f a.l)).toNat : Nat) : Int) = chN h.l.length (v.f a.l) := by
      unfold chN
      omega
     rw [getD_at g1, getD_at g2, ← l3, ← e2, e4]
     rcases h12 with h1 | h1
     ·have q := ex_choices_load V.M k a.l.toNat h v a W hR.1 h1 oM hh hv oM oM oM (fun z => by rw [e2]; exact (hvl z).2)
      rw [e3] at q
      exact q
     ·have q := ex_choices_acq V.M k a.l.toNat h v a W hR.1 h1 oM hh hv oM oM oM (fun z => by rw [e2]; exact (hvl z).2)
      rw [e3] at q
      exact q
    ·rw [if_neg (by rintro ⟨_, h⟩; exact hin h)]
     rcases h12 with h1 | h1
     ·exact ex_choices_none1 V.M _ a.l a W hR.1 h1 rfl oM
     ·exact ex_choices_none2 V.M _ a.l a W hR.1 h1 rfl oM
   ·rw [if_neg (by rintro ⟨h, _⟩; exact h12 h)]
    exact ex_choices_one V.M _ a W oM oM
theorem rows_ok (Ok : PW → Prop) (B0 : Nat) (hB : 0 < B0)
  (hfit : ∀ P, Ok P → P.Fit ∧ (∀ r ∈ P.rows, r.l.length ≤ 100 ∧ r.i ≤ r.l.length) ∧ ∀ b ∈ P.ss, b = false)
  (hnext : ∀ P s, Ok P → s ∈ stpTo P.cs P.cs.length → Ok (P.next s)) : ExplOK (rowsE Ok B0) B0 where
 inv := fun ⟨h1, h2, h3, h4⟩ hb => ⟨h1, fun r hr => (h2 r hr).below hb, h3.below hb hB, Nat.le_trans h4 hb.size⟩
 invn := fun ⟨h1, h2, h3, h4⟩ hs => ⟨hnext _ _ h1 hs, rows_next (stp_mem hs) h2, h3, h4⟩
 sz := fun h => h.2
 keyl := fun h => (hfit _ h.1).1.kl
 outl := fun h => (hfit _ h.1).1.ol
 stepl := fun h => steps_le (hfit _ h.1).1 _
 key := fun {V P w} hR hRep hInv => by
  have hf := (hfit _ hInv.1).1
  have q := ex_key V w hR hInv.2.2.1 (Nat.lt_of_lt_of_le hB hInv.2.2.2) (shows_okK hR hRep.1 hf)
  rw [shows_keyT hRep.1 hf.rg] at q
  exact q
 out := fun {V P w} hR hRep hInv => by
  obtain ⟨hS, hL⟩ := hRep
  obtain ⟨hOk, hRows, hT, hB1⟩ := hInv
  have hf := (hfit _ hOk).1
  have hw := words_okW hf.q
  have hwl : P.q.words.length = V.M.mem.hs.length := by
   have := map_len hS.1.1
   simp only [MW.words, List.length_map]
   omega
  have hhs := hf.q.hs
  have l1 := map_len hS.1.1
  have hth := hf.q.th
  have hrt := hf.rt
  have q := ex_outcome textW W3.okW V P.q.words w hR (fun W hW => mach_words V.M P.q.words W (hR.below hW).1.1 hwl oM (fun k x hx W2 hR2 => by
    obtain ⟨hi, j, g, g1, g2, g3, g4, rfl, _⟩ := words_at hS.1 hf.q hx
    exact mach_word V.M k j hi g W2 hR2 g1 g2 g3 g4)) oM oM
   (fun x hx W hW => text_any x W hx (hT.below hW (Nat.lt_of_lt_of_le hB hB1)) (Nat.lt_of_lt_of_le (Nat.lt_of_lt_of_le hB hB1) hW.size)) hw
   (fun k hk g hg => (hf.gl k.l (by rw [← hS.2.1]; exact List.mem_map_of_mem hk)).2 g hg) (by rw [hS.2.2.2.1]; omega)
   (fun k hk => by
    have hm : k.l.length = k.m := gots_length (hR.2.1.2.2.2 k hk).1
    have := (hf.gl k.l (by rw [← hS.2.1]; exact List.mem_map_of_mem hk)).1
    omega) (by rw [hS.2.1]; exact hf.ol)
  rw [hS.2.1] at q
  exact q
 steps := fun {V P w} hR hRep hInv => by
  obtain ⟨hS, hL⟩ := hRep
  have hf := (hfit _ hInv.1).1
  have hth := hf.q.th
  have hrt := hf.rt
  have e := hS.2.2.2.1
  have q := ex_steps V P.cs w hR (by rw [cs_len, e]) oM (steps_le hf) (pend_row hS hf (hfit _ hInv.1).2.2)
  have q2 : stpTo P.cs V.ts.length = stpTo P.cs P.cs.length := by rw [e, cs_len]
  rw [q2] at q
  exact q
 after := fun {V P w s} hR hRep hInv hs => by
  obtain ⟨hS, hL⟩ := hRep
  obtain ⟨hOk, hRows, hT, hB1⟩ := hInv
  obtain ⟨hf, hrs, hns⟩ := hfit _ hOk
  have hlt := stp_mem hs
  obtain ⟨a, ha, h4⟩ := step_parts hlt
  have hcl := ch_le hf s.1
  have hhs : ((P.next s).q.hs).length = P.q.hs.length := by rw [h4]; exact doq_hs _ _ _ _
  refine (ex_after V s.1 s.2 w (fun V2 => Shows V2 (P.next s)) hR (fun W hW hR2 => ?_)).mono ?_
  ·rw [h4]
   exact step_row V P W s.1 s.2 a hR2 hS (fun r' hr' => ⟨((hRows r' hr').below (hW.mono hB1)).more (Nat.le_trans hB1 hW.size), by have := hrs r' hr'; omega⟩) ha hf.q.can hf.rt (fun gl hg => (hf.gl gl hg).1) (WalkArith.wf_i64 oM)
  ·rintro e w' ⟨V2, rfl, hS2, hR2, hoff, hb⟩
   exact ⟨V2, rfl, ⟨hS2, by have := map_len hS2.1.1; have := map_len hS.1.1; omega⟩, hR2, hoff, hb⟩
theorem law_ch_done (V : WorldV) (t : Nat) (k : TaskV) (w : World) (hR : V.R w) (hk : V.ts[t]? = some k) (hn : V.ts.length ≤ 1000) (hs : V.ss[t]? = some false) (hd : ∀ W, Calls Tryz.prog 41 #[(tkV k)] W (Ret (.bool true) W)) :
  Calls Tryz.prog 17 #[(woV V), .int .i64 ((t : Int) + 1)] w (Ret (.int .i64 0) w) := by
 try unfold woV
 have ht : t < V.ts.length := (List.getElem?_eq_some_iff.1 hk).1
 have hts : t < V.ss.length := (List.getElem?_eq_some_iff.1 hs).1
 obtain ⟨bl, off, e, hbl, hcl⟩ := Rd.elem hR.2.1.2.2.1 taskc_len ht hk
 obtain ⟨bs, ofs, es, hbs, s0⟩ := Rd.one hR.2.2.2.2 hts hs
 have Hd := hide hd
 clear hd
 ·obtain ⟨M, tA, tc, ts, sA, sc, ss⟩ := V
  simp only at e es ht hn hts
  subst e es
  (try simp only at Hmm)
  (try simp only at Hh)
  (try simp only at HR)
  (try simp only at Hseen)
  (try simp only at Hat)
  (try simp only)
  have g1 : ¬ ((t : Int) + 1 < 1) := by omega
  have g2 : ¬ ((t : Int) + 1 > (ts.length : Int)) := by omega
  have g2' : ¬ ((ts.length : Int) < (t : Int) + 1) := by omega
  have h0 : (0 : Int) ≤ (t : Int) := by omega
  have h1 : (t : Int) < (ts.length : Int) := by omega
  have h1' : (t : Int) < (ss.length : Int) := by omega
  have hw1 : IntKind.i64.wrap ((t : Int) + 1 - 1) = (t : Int) := by rw [show (t : Int) + 1 - 1 = (t : Int) by omega]; exact IntWalk.i64_in _ oM
  have hw2 : IntKind.i64.wrap (t : Int) = (t : Int) := IntWalk.i64_in _ oM
  have hz : bl < w.heap.size + 1 := by omega
  have hzs : bs < w.heap.size + 1 := by omega
  have t0 : w.cell? ⟨bl, off + t * 11, none⟩ = some (k.c) := hcl 0 _ rfl
  have t1 : w.cell? ⟨bl, off + t * 11 + 1, none⟩ = some (k.nx) := hcl 1 _ rfl
  have t2 : w.cell? ⟨bl, off + t * 11 + 2, none⟩ = some (.int .i64 k.a.o) := hcl 2 _ rfl
  have t3 : w.cell? ⟨bl, off + t * 11 + 3, none⟩ = some (.int .i64 k.a.l) := hcl 3 _ rfl
  have t4 : w.cell? ⟨bl, off + t * 11 + 4, none⟩ = some (.int .i64 k.a.v) := hcl 4 _ rfl
  have t5 : w.cell? ⟨bl, off + t * 11 + 5, none⟩ = some (.int .u32 k.a.r) := hcl 5 _ rfl
  have t6 : w.cell? ⟨bl, off + t * 11 + 6, none⟩ = some (.int .u32 k.a.f) := hcl 6 _ rfl
  have t7 : w.cell? ⟨bl, off + t * 11 + 7, none⟩ = some (.int .i64 k.a.v2) := hcl 7 _ rfl
  have t8 : w.cell? ⟨bl, off + t * 11 + 8, none⟩ = some (.int .u32 k.a.r2) := hcl 8 _ rfl
  have t9 : w.cell? ⟨bl, off + t * 11 + 9, none⟩ = some (.int .u32 k.a.f2) := hcl 9 _ rfl
  have t10 : w.cell? ⟨bl, off + t * 11 + 10, none⟩ = some (.slice k.A k.m k.cp) := hcl 10 _ rfl
  clear hR hk hn hs hcl
  go_enter Tryz.func17, Tryz.ntmps17
  go_wp2_with (first
   | (go_at_call 41; refine (Hd.out _).mono ?_; rintro e w1 ⟨rfl, hb1⟩; obtain ⟨hcc1, hff1, hs1⟩ := bC hb1; (try simp at hs1); have hx1 : w.heap.size < w1.heap.size := oM; have hy1 : bl < w1.heap.size := oM))
  go_ret
  exact ⟨rfl, ab0⟩
theorem law_ch_one (V : WorldV) (t : Nat) (k : TaskV) (w : World) (hR : V.R w) (hk : V.ts[t]? = some k) (hn : V.ts.length ≤ 1000) (hs : V.ss[t]? = some false) (hd : ∀ W, Calls Tryz.prog 41 #[(tkV k)] W (Ret (.bool false) W)) (ha : ∀ W, Calls Tryz.prog 18 #[(tkV k)] W (Ret (.tuple #[(acV k.a), .bool true]) W)) (h1 : k.a.o ≠ 1) (h2 : k.a.o ≠ 2) :
  Calls Tryz.prog 17 #[(woV V), .int .i64 ((t : Int) + 1)] w (Ret (.int .i64 1) w) := by
 try unfold woV
 have ht : t < V.ts.length := (List.getElem?_eq_some_iff.1 hk).1
 have hts : t < V.ss.length := (List.getElem?_eq_some_iff.1 hs).1
 obtain ⟨bl, off, e, hbl, hcl⟩ := Rd.elem hR.2.1.2.2.1 taskc_len ht hk
 obtain ⟨bs, ofs, es, hbs, s0⟩ := Rd.one hR.2.2.2.2 hts hs
 have Hd := hide hd
 have Ha := hide ha
 have n1 : (k.a.o != 1) = true := by simpa using h1
 have n2 : (k.a.o != 2) = true := by simpa using h2
 clear hd ha h1 h2
 ·obtain ⟨M, tA, tc, ts, sA, sc, ss⟩ := V
  simp only at e es ht hn hts
  subst e es
  (try simp only at Hmm)
  (try simp only at Hh)
  (try simp only at HR)
  (try simp only at Hseen)
  (try simp only at Hat)
  (try simp only)
  have g1 : ¬ ((t : Int) + 1 < 1) := by omega
  have g2 : ¬ ((t : Int) + 1 > (ts.length : Int)) := by omega
  have g2' : ¬ ((ts.length : Int) < (t : Int) + 1) := by omega
  have h0 : (0 : Int) ≤ (t : Int) := by omega
  have h1 : (t : Int) < (ts.length : Int) := by omega
  have h1' : (t : Int) < (ss.length : Int) := by omega
  have hw1 : IntKind.i64.wrap ((t : Int) + 1 - 1) = (t : Int) := by rw [show (t : Int) + 1 - 1 = (t : Int) by omega]; exact IntWalk.i64_in _ oM
  have hw2 : IntKind.i64.wrap (t : Int) = (t : Int) := IntWalk.i64_in _ oM
  have hz : bl < w.heap.size + 1 := by omega
  have hzs : bs < w.heap.size + 1 := by omega
  have t0 : w.cell? ⟨bl, off + t * 11, none⟩ = some (k.c) := hcl 0 _ rfl
  have t1 : w.cell? ⟨bl, off + t * 11 + 1, none⟩ = some (k.nx) := hcl 1 _ rfl
  have t2 : w.cell? ⟨bl, off + t * 11 + 2, none⟩ = some (.int .i64 k.a.o) := hcl 2 _ rfl
  have t3 : w.cell? ⟨bl, off + t * 11 + 3, none⟩ = some (.int .i64 k.a.l) := hcl 3 _ rfl
  have t4 : w.cell? ⟨bl, off + t * 11 + 4, none⟩ = some (.int .i64 k.a.v) := hcl 4 _ rfl
  have t5 : w.cell? ⟨bl, off + t * 11 + 5, none⟩ = some (.int .u32 k.a.r) := hcl 5 _ rfl
  have t6 : w.cell? ⟨bl, off + t * 11 + 6, none⟩ = some (.int .u32 k.a.f) := hcl 6 _ rfl
  have t7 : w.cell? ⟨bl, off + t * 11 + 7, none⟩ = some (.int .i64 k.a.v2) := hcl 7 _ rfl
  have t8 : w.cell? ⟨bl, off + t * 11 + 8, none⟩ = some (.int .u32 k.a.r2) := hcl 8 _ rfl
  have t9 : w.cell? ⟨bl, off + t * 11 + 9, none⟩ = some (.int .u32 k.a.f2) := hcl 9 _ rfl
  have t10 : w.cell? ⟨bl, off + t * 11 + 10, none⟩ = some (.slice k.A k.m k.cp) := hcl 10 _ rfl
  clear hR hk hn hs hcl
  go_enter Tryz.func17, Tryz.ntmps17
  go_wp2_with (first
   | (go_at_call 41; refine (Hd.out _).mono ?_; rintro e w1 ⟨rfl, hb1⟩; obtain ⟨hcc1, hff1, hs1⟩ := bC hb1; (try simp at hs1); have hx1 : w.heap.size < w1.heap.size := oM; have hy1 : bl < w1.heap.size := oM)
   | (go_at_call 18; refine (Ha.out _).mono ?_; rintro e w2 ⟨rfl, hb2⟩; obtain ⟨hcc2, hff2, hs2⟩ := bC hb2; (try simp at hs2); have hx2 : w.heap.size < w2.heap.size := oM; have hy2 : bl < w2.heap.size := oM))
  go_ret
  exact ⟨rfl, ab0⟩
theorem abD7 {p : Prop} (h : p := by
 obtain ⟨M, tA, tc, ts, sA, sc, ss⟩ := V
 simp only at e es ht hn hts
 subst e es
 (try simp only at Hmm)
 (try simp only at Hh)
 (try simp only at HR)
 (try simp only at Hseen)
 (try simp only at Hat)
 (try simp only)
 have g1 : ¬ ((t : Int) + 1 < 1) := by omega
 have g2 : ¬ ((t : Int) + 1 > (ts.length : Int)) := by omega
 have g2' : ¬ ((ts.length : Int) < (t : Int) + 1) := by omega
 have h0 : (0 : Int) ≤ (t : Int) := by omega
 have h1 : (t : Int) < (ts.length : Int) := by omega
 have h1' : (t : Int) < (ss.length : Int) := by omega
 have hw1 : IntKind.i64.wrap ((t : Int) + 1 - 1) = (t : Int) := by rw [show (t : Int) + 1 - 1 = (t : Int) by omega]; exact IntWalk.i64_in _ oM
 have hw2 : IntKind.i64.wrap (t : Int) = (t : Int) := IntWalk.i64_in _ oM
 have hz : bl < w.heap.size + 1 := by omega
 have hzs : bs < w.heap.size + 1 := by omega
 have t0 : w.cell? ⟨bl, off + t * 11, none⟩ = some (k.c) := hcl 0 _ rfl
 have t1 : w.cell? ⟨bl, off + t * 11 + 1, none⟩ = some (k.nx) := hcl 1 _ rfl
 have t2 : w.cell? ⟨bl, off + t * 11 + 2, none⟩ = some (.int .i64 k.a.o) := hcl 2 _ rfl
 have t3 : w.cell? ⟨bl, off + t * 11 + 3, none⟩ = some (.int .i64 k.a.l) := hcl 3 _ rfl
 have t4 : w.cell? ⟨bl, off + t * 11 + 4, none⟩ = some (.int .i64 k.a.v) := hcl 4 _ rfl
 have t5 : w.cell? ⟨bl, off + t * 11 + 5, none⟩ = some (.int .u32 k.a.r) := hcl 5 _ rfl
 have t6 : w.cell? ⟨bl, off + t * 11 + 6, none⟩ = some (.int .u32 k.a.f) := hcl 6 _ rfl
 have t7 : w.cell? ⟨bl, off + t * 11 + 7, none⟩ = some (.int .i64 k.a.v2) := hcl 7 _ rfl
 have t8 : w.cell? ⟨bl, off + t * 11 + 8, none⟩ = some (.int .u32 k.a.r2) := hcl 8 _ rfl
 have t9 : w.cell? ⟨bl, off + t * 11 + 9, none⟩ = some (.int .u32 k.a.f2) := hcl 9 _ rfl
 have t10 : w.cell? ⟨bl, off + t * 11 + 10, none⟩ = some (.slice k.A k.m k.cp) := hcl 10 _ rfl
 clear hR hk hn hs hcl
 go_enter Tryz.func17, Tryz.ntmps17
 go_wp2_with (first
  | (go_at_call 41; refine (Hd.out _).mono ?_; rintro e w1 ⟨rfl, hb1⟩; obtain ⟨hcc1, hff1, hs1⟩ := bC hb1; (try simp at hs1); have hx1 : w.heap.size < w1.heap.size := oM; have hy1 : bl < w1.heap.size := oM)
  | (go_at_call 18; refine (Ha.out _).mono ?_; rintro e w2 ⟨rfl, hb2⟩; obtain ⟨hcc2, hff2, hs2⟩ := bC hb2; (try simp at hs2); have hx2 : w.heap.size < w2.heap.size := oM; have hy2 : bl < w2.heap.size := oM)
  | (go_at_call 44; refine (Hmm.out _).mono ?_; rintro e w3 ⟨rfl, hb3⟩; obtain ⟨hcc3, hff3, hs3⟩ := bC hb3; (try simp at hs3); have hx3 : w.heap.size < w3.heap.size := oM; have hy3 : bl < w3.heap.size := oM; have hv3 : w2.heap.size < w3.heap.size := oM)
  | (go_at_call 45; refine (Hh.out _).mono ?_; rintro e w4 ⟨rfl, hb4⟩; obtain ⟨hcc4, hff4, hs4⟩ := bC hb4; (try simp at hs4); have hx4 : w.heap.size < w4.heap.size := oM; have hy4 : bl < w4.heap.size := oM; have hv4 : w2.heap.size < w4.heap.size := oM; have hu4 : w3.heap.size < w4.heap.size := oM))
 go_ret
 exact ⟨rfl, ab0⟩) : p := h
theorem law_ch_far1 (V : WorldV) (t : Nat) (k : TaskV) (w : World) (hR : V.R w) (hk : V.ts[t]? = some k) (hn : V.ts.length ≤ 1000) (hs : V.ss[t]? = some false) (hd : ∀ W, Calls Tryz.prog 41 #[(tkV k)] W (Ret (.bool false) W)) (ha : ∀ W, Calls Tryz.prog 18 #[(tkV k)] W (Ret (.tuple #[(acV k.a), .bool true]) W)) (ho : k.a.o = 1) (hz : k.a.l < 0 ∨ (V.M.mem.hs.length : Int) ≤ k.a.l) :
  Calls Tryz.prog 17 #[(woV V), .int .i64 ((t : Int) + 1)] w (Ret (.int .i64 1) w) := by
 have ht : t < V.ts.length := (List.getElem?_eq_some_iff.1 hk).1
 have hts : t < V.ss.length := (List.getElem?_eq_some_iff.1 hs).1
 obtain ⟨bl, off, e, hbl, hcl⟩ := Rd.elem hR.2.1.2.2.1 taskc_len ht hk
 obtain ⟨bs, ofs, es, hbs, s0⟩ := Rd.one hR.2.2.2.2 hts hs
 have Hd := hide hd
 have Ha := hide ha
 have hmm := fun W => mach_memory V.M W
 have hhist := fun W => mem_history_no V.M.mem k.a.l W hz
 have Hmm := hide hmm
 have Hh := hide hhist
 have n1 : (k.a.o != 1) = false := by simp [ho]
 clear hd ha ho hmm hhist hz
 ·exact abD7
theorem law_ch_far2 (V : WorldV) (t : Nat) (k : TaskV) (w : World) (hR : V.R w) (hk : V.ts[t]? = some k) (hn : V.ts.length ≤ 1000) (hs : V.ss[t]? = some false) (hd : ∀ W, Calls Tryz.prog 41 #[(tkV k)] W (Ret (.bool false) W)) (ha : ∀ W, Calls Tryz.prog 18 #[(tkV k)] W (Ret (.tuple #[(acV k.a), .bool true]) W)) (ho : k.a.o = 2) (hz : k.a.l < 0 ∨ (V.M.mem.hs.length : Int) ≤ k.a.l) :
  Calls Tryz.prog 17 #[(woV V), .int .i64 ((t : Int) + 1)] w (Ret (.int .i64 1) w) := by
 have ht : t < V.ts.length := (List.getElem?_eq_some_iff.1 hk).1
 have hts : t < V.ss.length := (List.getElem?_eq_some_iff.1 hs).1
 obtain ⟨bl, off, e, hbl, hcl⟩ := Rd.elem hR.2.1.2.2.1 taskc_len ht hk
 obtain ⟨bs, ofs, es, hbs, s0⟩ := Rd.one hR.2.2.2.2 hts hs
 have Hd := hide hd
 have Ha := hide ha
 have hmm := fun W => mach_memory V.M W
 have hhist := fun W => mem_history_no V.M.mem k.a.l W hz
 have Hmm := hide hmm
 have Hh := hide hhist
 have n1 : (k.a.o != 1) = true := by simp [ho]
 have n2 : (k.a.o != 2) = false := by simp [ho]
 clear hd ha ho hmm hhist hz
 ·exact abD7
theorem abD5 {p : Prop} (h : p := by
 obtain ⟨M, tA, tc, ts, sA, sc, ss⟩ := V
 simp only at e es ht hn hts
 subst e es
 (try simp only at Hmm)
 (try simp only at Hh)
 (try simp only at HR)
 (try simp only at Hseen)
 (try simp only at Hat)
 (try simp only)
 have g1 : ¬ ((t : Int) + 1 < 1) := by omega
 have g2 : ¬ ((t : Int) + 1 > (ts.length : Int)) := by omega
 have g2' : ¬ ((ts.length : Int) < (t : Int) + 1) := by omega
 have h0 : (0 : Int) ≤ (t : Int) := by omega
 have h1 : (t : Int) < (ts.length : Int) := by omega
 have h1' : (t : Int) < (ss.length : Int) := by omega
 have hw1 : IntKind.i64.wrap ((t : Int) + 1 - 1) = (t : Int) := by rw [show (t : Int) + 1 - 1 = (t : Int) by omega]; exact IntWalk.i64_in _ oM
 have hw2 : IntKind.i64.wrap (t : Int) = (t : Int) := IntWalk.i64_in _ oM
 have hz : bl < w.heap.size + 1 := by omega
 have hzs : bs < w.heap.size + 1 := by omega
 have t0 : w.cell? ⟨bl, off + t * 11, none⟩ = some (k.c) := hcl 0 _ rfl
 have t1 : w.cell? ⟨bl, off + t * 11 + 1, none⟩ = some (k.nx) := hcl 1 _ rfl
 have t2 : w.cell? ⟨bl, off + t * 11 + 2, none⟩ = some (.int .i64 k.a.o) := hcl 2 _ rfl
 have t3 : w.cell? ⟨bl, off + t * 11 + 3, none⟩ = some (.int .i64 k.a.l) := hcl 3 _ rfl
 have t4 : w.cell? ⟨bl, off + t * 11 + 4, none⟩ = some (.int .i64 k.a.v) := hcl 4 _ rfl
 have t5 : w.cell? ⟨bl, off + t * 11 + 5, none⟩ = some (.int .u32 k.a.r) := hcl 5 _ rfl
 have t6 : w.cell? ⟨bl, off + t * 11 + 6, none⟩ = some (.int .u32 k.a.f) := hcl 6 _ rfl
 have t7 : w.cell? ⟨bl, off + t * 11 + 7, none⟩ = some (.int .i64 k.a.v2) := hcl 7 _ rfl
 have t8 : w.cell? ⟨bl, off + t * 11 + 8, none⟩ = some (.int .u32 k.a.r2) := hcl 8 _ rfl
 have t9 : w.cell? ⟨bl, off + t * 11 + 9, none⟩ = some (.int .u32 k.a.f2) := hcl 9 _ rfl
 have t10 : w.cell? ⟨bl, off + t * 11 + 10, none⟩ = some (.slice k.A k.m k.cp) := hcl 10 _ rfl
 clear hR hk hn hs hcl
 go_enter Tryz.func17, Tryz.ntmps17
 go_upto_region 12 with (first
  | (go_at_call 41; refine (Hd.out _).mono ?_; rintro e w1 ⟨rfl, hb1⟩; obtain ⟨hcc1, hff1, hs1⟩ := bC hb1; (try simp at hs1); have hx1 : w.heap.size < w1.heap.size := oM; have hy1 : bl < w1.heap.size := oM)
  | (go_at_call 18; refine (Ha.out _).mono ?_; rintro e w2 ⟨rfl, hb2⟩; obtain ⟨hcc2, hff2, hs2⟩ := bC hb2; (try simp at hs2); have hx2 : w.heap.size < w2.heap.size := oM; have hy2 : bl < w2.heap.size := oM)
  | (go_at_call 44; refine (Hmm.out _).mono ?_; rintro e w3 ⟨rfl, hb3⟩; obtain ⟨hcc3, hff3, hs3⟩ := bC hb3; (try simp at hs3); have hx3 : w.heap.size < w3.heap.size := oM; have hy3 : bl < w3.heap.size := oM; have hv3 : w2.heap.size < w3.heap.size := oM)
  | (go_at_call 45; refine (Hh.out _ (HR.out.below (by first | with_reducible assumption | exact ab0))).mono ?_; rintro e w4 ⟨rfl, hb4⟩; obtain ⟨hcc4, hff4, hs4⟩ := bC hb4; (try simp at hs4); have hx4 : w.heap.size < w4.heap.size := oM; have hy4 : bl < w4.heap.size := oM; have hv4 : w2.heap.size < w4.heap.size := oM; have hu4 : w3.heap.size < w4.heap.size := oM))
 obtain ⟨wc, hwc⟩ : ∃ W : World, W = w4.alloc (.cells #[.slice h.A h.l.length h.cap] 115) := ⟨_, rfl⟩
 have hBc : Below w.heap.size w wc := by rw [hwc]; exact ab0
 have hsc : wc.heap.size = w4.heap.size + 1 := by rw [hwc]; simp
 have p8 : wc.cell? ⟨w4.heap.size, 0, none⟩ = some (.slice h.A h.l.length h.cap) := by rw [hwc]; go_simp
 have p7 : wc.cell? ⟨w3.heap.size, 0, none⟩ = some (.slice M.mem.pA M.mem.hs.length M.mem.pc) := by rw [hwc]; go_simp
 have p7b : wc.cell? ⟨w3.heap.size, 1, none⟩ = some (.slice M.mem.vA M.mem.vs.length M.mem.vc) := by rw [hwc]; go_simp
 have p5 : wc.cell? ⟨w2.heap.size, 1, none⟩ = some (.int .i64 k.a.l) := by rw [hwc]; go_simp
 have q4 : w4.heap.size < wc.heap.size := by omega
 have q3 : w3.heap.size < wc.heap.size := by omega
 have q2 : w2.heap.size < wc.heap.size := by omega
 have q0 : w.heap.size ≤ wc.heap.size := by omega
 have HBc := hide hBc
 rw [← hwc]
 clear hwc hBc hb1 hb2 hb3 hb4 hcc1 hcc2 hcc3 hcc4 hff1 hff2 hff3 hff4 t0 t1 t2 t3 t4 t5 t6 t7 t8 t9 t10 s0 hs1 hs2 hs3 hs4 hx1 hx2 hx3 hx4 hy1 hy2 hy3 hy4 hv3 hv4 hu4 hsc
 go_region_held3 (fun w' => w'.cell? ⟨w4.heap.size, 0, none⟩ = some (.slice h.A h.l.length h.cap) ∧ w'.cell? ⟨w3.heap.size, 0, none⟩ = some (.slice M.mem.pA M.mem.hs.length M.mem.pc) ∧ w'.cell? ⟨w3.heap.size, 1, none⟩ = some (.slice M.mem.vA M.mem.vs.length M.mem.vc) ∧ w'.cell? ⟨w2.heap.size, 1, none⟩ = some (.int .i64 k.a.l))
  (first | exact ⟨by go_simp, by go_simp, by go_simp, by go_simp⟩ | go_keep)
  (first
   | (go_at_call 46; with_reducible refine (Hlen.out _).mono ?_; rintro e w5 ⟨rfl, hb5'⟩; have hb5 : Below _ _ w5 := ab9; clear hb5'; obtain ⟨hcc5, hff5, hs5⟩ := bC hb5; (try simp at hs5); have hz54 : w4.heap.size < w5.heap.size := oM; have hz53 : w3.heap.size < w5.heap.size := oM; have hz52 : w2.heap.size < w5.heap.size := oM)
   | (go_at_call 47; refine (Hseen.out _ (HR.out.below (Below.trans HBc.out (Below.mono (B := wc.heap.size) ab0 oM)))).mono ?_; rintro e w6 ⟨rfl, hb6'⟩; have hb6 : Below _ _ w6 := (by first | with_reducible exact noDrew hb6' | exact hb6'); clear hb6'; obtain ⟨hcc6, hff6, hs6⟩ := bC hb6; (try simp at hs6); have hz64 : w4.heap.size < w6.heap.size := oM; have hz63 : w3.heap.size < w6.heap.size := oM; have hz62 : w2.heap.size < w6.heap.size := oM)
   | (go_at_call 48; refine (Hat.out _ (HR.out.below (Below.trans HBc.out (Below.mono (B := wc.heap.size) ab0 oM)))).mono ?_; rintro e w7 ⟨rfl, hb7'⟩; have hb7 : Below _ _ w7 := (by first | with_reducible exact noDrew hb7' | exact hb7'); clear hb7'; obtain ⟨hcc7, hff7, hs7⟩ := bC hb7; (try simp at hs7); have hz74 : w4.heap.size < w7.heap.size := oM; have hz73 : w3.heap.size < w7.heap.size := oM; have hz72 : w2.heap.size < w7.heap.size := oM))
 all_goals go_wp2
 all_goals go_ret
 all_goals exact ⟨by first | (rw [Int.max_comm]; rfl) | rfl, Below.trans HBc.out (Below.mono (B := wc.heap.size) ab0 oM)⟩) : p := h
theorem law_ch_load (V : WorldV) (t : Nat) (k : TaskV) (w : World) (hR : V.R w) (hk : V.ts[t]? = some k) (hn : V.ts.length ≤ 1000) (hs : V.ss[t]? = some false) (hd : ∀ W, Calls Tryz.prog 41 #[(tkV k)] W (Ret (.bool false) W)) (ha : ∀ W, Calls Tryz.prog 18 #[(tkV k)] W (Ret (.tuple #[(acV k.a), .bool true]) W)) (ho : k.a.o = 1) (kk : Nat) (hat : k.a.l = kk) (h : HistV) (v : VwV) (hh : V.M.mem.hs[kk]? = some h) (hv : V.M.mem.vs[t]? = some v) (hvn : V.M.mem.vs.length ≤ 1000) (hL : V.M.mem.hs.length ≤ 4096) (hl6 : h.l.length ≤ 1000000) (hf6 : ∀ z, v.f z ≤ 1000000) :
  Calls Tryz.prog 17 #[(woV V), .int .i64 ((t : Int) + 1)] w (Ret (.int .i64 (chN h.l.length (v.f kk))) w) := by
 have ht : t < V.ts.length := (List.getElem?_eq_some_iff.1 hk).1
 have hts : t < V.ss.length := (List.getElem?_eq_some_iff.1 hs).1
 obtain ⟨bl, off, e, hbl, hcl⟩ := Rd.elem hR.2.1.2.2.1 taskc_len ht hk
 obtain ⟨bs, ofs, es, hbs, s0⟩ := Rd.one hR.2.2.2.2 hts hs
 have Hd := hide hd
 have Ha := hide ha
 have hkk : kk < V.M.mem.hs.length := (List.getElem?_eq_some_iff.1 hh).1
 have hf0 : 0 ≤ v.f kk := ((hR.1.1.2.2.2.2 v (List.mem_of_getElem? hv)).1 kk).1
 have hf1 := hf6 kk
 have hmm := fun W => mach_memory V.M W
 have hhist := fun W (h0 : V.M.mem.R W) => mem_history V.M.mem kk h W h0 hh
 have hlen := fun W => hist_len h W
 have hseen := fun W (h0 : V.M.mem.R W) => mem_seen V.M.mem t v W h0 hv hvn
 have hat2 := fun W (h0 : V.M.mem.R W) => view_at V.M.mem.hs.length hL v kk W (h0.2.2.2.2 v (List.mem_of_getElem? hv)) oM oM
 rw [← hat] at hhist hat2
 have HR := hide hR.1.1
 have Hmm := hide hmm
 have Hh := hide hhist
 have Hlen := hide hlen
 have Hseen := hide hseen
 have Hat := hide hat2
 have hw : IntKind.i64.wrap ((h.l.length : Int) - v.f k.a.l) = (h.l.length : Int) - v.f k.a.l := IntWalk.i64_in _ (by rw [hat]; omega)
 rw [show chN h.l.length (v.f kk) = max 1 ((h.l.length : Int) - v.f k.a.l) from by rw [hat]; rfl]
 have n1 : (k.a.o != 1) = false := by simp [ho]
 clear hd ha ho hmm hhist hlen hseen hat2 hh hv hvn hL hl6 hf6 hf0 hf1 hkk hat
 ·exact abD5
theorem law_ch_acq (V : WorldV) (t : Nat) (k : TaskV) (w : World) (hR : V.R w) (hk : V.ts[t]? = some k) (hn : V.ts.length ≤ 1000) (hs : V.ss[t]? = some false) (hd : ∀ W, Calls Tryz.prog 41 #[(tkV k)] W (Ret (.bool false) W)) (ha : ∀ W, Calls Tryz.prog 18 #[(tkV k)] W (Ret (.tuple #[(acV k.a), .bool true]) W)) (ho : k.a.o = 2) (kk : Nat) (hat : k.a.l = kk) (h : HistV) (v : VwV) (hh : V.M.mem.hs[kk]? = some h) (hv : V.M.mem.vs[t]? = some v) (hvn : V.M.mem.vs.length ≤ 1000) (hL : V.M.mem.hs.length ≤ 4096) (hl6 : h.l.length ≤ 1000000) (hf6 : ∀ z, v.f z ≤ 1000000) :
  Calls Tryz.prog 17 #[(woV V), .int .i64 ((t : Int) + 1)] w (Ret (.int .i64 (chN h.l.length (v.f kk))) w) := by
 have ht : t < V.ts.length := (List.getElem?_eq_some_iff.1 hk).1
 have hts : t < V.ss.length := (List.getElem?_eq_some_iff.1 hs).1
 obtain ⟨bl, off, e, hbl, hcl⟩ := Rd.elem hR.2.1.2.2.1 taskc_len ht hk
 obtain ⟨bs, ofs, es, hbs, s0⟩ := Rd.one hR.2.2.2.2 hts hs
 have Hd := hide hd
 have Ha := hide ha
 have hkk : kk < V.M.mem.hs.length := (List.getElem?_eq_some_iff.1 hh).1
 have hf0 : 0 ≤ v.f kk := ((hR.1.1.2.2.2.2 v (List.mem_of_getElem? hv)).1 kk).1
 have hf1 := hf6 kk
 have hmm := fun W => mach_memory V.M W
 have hhist := fun W (h0 : V.M.mem.R W) => mem_history V.M.mem kk h W h0 hh
 have hlen := fun W => hist_len h W
 have hseen := fun W (h0 : V.M.mem.R W) => mem_seen V.M.mem t v W h0 hv hvn
 have hat2 := fun W (h0 : V.M.mem.R W) => view_at V.M.mem.hs.length hL v kk W (h0.2.2.2.2 v (List.mem_of_getElem? hv)) oM oM
 rw [← hat] at hhist hat2
 have HR := hide hR.1.1
 have Hmm := hide hmm
 have Hh := hide hhist
 have Hlen := hide hlen
 have Hseen := hide hseen
 have Hat := hide hat2
 have hw : IntKind.i64.wrap ((h.l.length : Int) - v.f k.a.l) = (h.l.length : Int) - v.f k.a.l := IntWalk.i64_in _ (by rw [hat]; omega)
 rw [show chN h.l.length (v.f kk) = max 1 ((h.l.length : Int) - v.f k.a.l) from by rw [hat]; rfl]
 have n1 : (k.a.o != 1) = true := by simp [ho]
 have n2 : (k.a.o != 2) = false := by simp [ho]
 clear hd ha ho hmm hhist hlen hseen hat2 hh hv hvn hL hl6 hf6 hf0 hf1 hkk hat
 ·exact abD5
end Go.Proofs.YtnnmenmifphadaaGreatDoor
