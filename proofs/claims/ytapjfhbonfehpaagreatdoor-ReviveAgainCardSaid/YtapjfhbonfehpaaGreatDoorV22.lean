/- Package redo: may, statuses, own. -/
import Derived.Test.YtapjfhbonfehpaaGreatDoorV21
set_option linter.unusedSimpArgs false
set_option linter.unusedVariables false
set_option maxRecDepth 100000
set_option maxHeartbeats 40000000
namespace Go.Proofs.YtapjfhbonfehpaaGreatDoor
open Go.RowKit
def mP (l : List Int) (w : World) (e : Ending) (w' : World) : Prop := ∃ (A : Option Addr) (cap : Nat), e = .returned (.slice A l.length cap) ∧ Rd w' w'.heap.size 1 A l.length (l.map (Value.int .i64)) ∧ (∀ b off, A = some ⟨b, off, none⟩ → w.heap.size ≤ b) ∧ Below w.heap.size w w'
def p9 (l : List Int) (w : World) (e : Ending) (w' : World) : Prop := ∃ (A : Option Addr) (cap : Nat), e = .returned (.slice A l.length cap) ∧ Rd w' w'.heap.size 1 A l.length (l.map (Value.int .i64)) ∧ (∀ b off, A = some ⟨b, off, none⟩ → w.heap.size ≤ b) ∧ Below w.heap.size w w' ∧ l.length ≤ cap
theorem p9.post {l : List Int} {w : World} {e : Ending} {w' : World} (h : p9 l w e w') : mP l w e w' := by
 obtain ⟨A, cap, h1, h2, h3, h4, -⟩ := h;exact ⟨A, cap, h1, h2, h3, h4⟩
theorem tH {w : World} {b : Nat} {v : Value} (h : w.cell? ⟨b, 0, none⟩ = some v) : Rd w w.heap.size 1 (some ⟨b, 0, none⟩) 1 [v] := ⟨rfl, fun _ => ⟨b, 0, rfl, cB h, fun j u hu => by
 match j, hu with
 | 0, hu => injection hu with hu; subst hu; exact h
 | j + 1, hu => simp at hu⟩⟩
theorem NH {w : World} {b : Nat} {v u : Value} (h : w.cell? ⟨b, 0, none⟩ = some v) (h2 : w.cell? ⟨b, 1, none⟩ = some u) : Rd w w.heap.size 1 (some ⟨b, 0, none⟩) 2 [v, u] := ⟨rfl, fun _ => ⟨b, 0, rfl, cB h, fun j u hu => by
 match j, hu with
 | 0, hu => injection hu with hu; subst hu; exact h
 | 1, hu => injection hu with hu; subst hu; exact h2
 | j + 2, hu => simp at hu⟩⟩
theorem uh : (Tryz.prog.info? 52).map (fun i => (i.zero, i.size, i.bytes)) = some (some (.int .i64 0), 1, 8) := by kernel_rfl
theorem mZ {w : World} {base size n : Nat} {e : TypeId} {v : Value} {xs : List Value} (h : w.ownsRow base e size v n xs) : ∃ A cap, v = .slice A n cap ∧ Rd w w.heap.size size A n xs := Rd.of_own h
def kw (T C B : Int) (k : Nat) : List Int := ((List.range k).map (fun j : Nat => (j : Int))).filter (iY T C B)
def aY (T C B : Int) : List Int := kw T C B (ah T C B 7).toNat
theorem qE (T C B : Int) (k : Nat) : (kw T C B k).length ≤ k := by
 unfold kw;refine Nat.le_trans (List.length_filter_le _ _) ?_;simp
theorem zN (T C B : Int) (w : World) (hv : aC T C B) (hs : ai w) : Calls Tryz.prog 21 #[(.agg #[.int .i64 T, .int .i64 C, .int .i64 B])] w (p9 (aY T C B) w) := by
 have hp := hs.pos;obtain ⟨N, hN⟩ : ∃ N : Nat, ah T C B 7 = (N : Int) := ⟨(ah T C B 7).toNat, by have := (fC T C B hv.1 7).1; omega⟩;have yS : N ≤ 4096 := by have := hv.2; omega
 have hR : aY T C B = kw T C B N := by unfold aY; rw [hN]; rfl
 rw [hR];have HN := aa hN;clear hN hR;obtain ⟨i0, hi, fF, fw, fD⟩ := info_parts uh;go_enter Tryz.func21, Tryz.ntmps21;go_wp2_with (first
  | (go_at_call 19; refine (fM T C B _ hv (hs.below ae)).mono ?_; rintro e w1 ⟨rfl, hb1⟩; rw [HN.out]; obtain ⟨ar, aA, hs1⟩ := bC hb1; (try simp at hs1); have hz1 := zL w.heap.size w1))
 have e0 := cI w1 w.heap.size 0 T;have e1 := cI w1 w.heap.size 1 C;have e2 := cI w1 w.heap.size 2 B;have hB1 : Below w.heap.size w w1 := ae;have HS := aa (hs.below hB1);clear ar aA hb1
 go_loopw [7, 3] (fun i v wr => ∃ k : Nat, i = .int .i64 k ∧ k ≤ N ∧ wr.ownsRow w1.heap.size 52 1 v (kw T C B k).length ((kw T C B k).map (Value.int .i64)) ∧ Below w1.heap.size w1 wr) (fun i _ _ => N - (intOf i).toNat)
 case atStart => exact ⟨0, rfl, by omega, World.ownsRow_nil _ _ _ _, ae⟩
 case round =>
  obtain ⟨k, rfl, hk, hown, hB⟩ := hrel;obtain ⟨A0, lm, rfl, vK, rV⟩ := aX hown;have hsz := hB.size;have f0 := cT hB e0 hz1;have f1 := cT hB e1 hz1;have f2 := cT hB e2 hz1;have jm := aa (HS.out.below hB);have hl := qE T C B k;have hstep : kw T C B (k + 1) = kw T C B k ++ if iY T C B k = true then [(k : Int)] else [] := by
   unfold kw;rw [List.range_succ, List.map_append, List.filter_append];congr 1;simp only [List.map_cons, List.map_nil, List.filter_cons, List.filter_nil]
  by_cases hlt : k < N
  ·cases hq : iY T C B k with
   | true =>
    rw [hq, if_pos rfl] at hstep;have fV := aa hstep;clear hstep;go_wp2_with (first
     | (go_at_call 44; refine (tZ T C B k _ hv (jm.out.below ae) oM oM).mono ?_; rintro e' w5 ⟨rfl, hb5⟩; rw [hq]; obtain ⟨bX, cw, hs5⟩ := bC hb5; (try simp at hs5))
     | (at_builtin; refine aK rfl _ _ 77 rfl w1.heap.size 52 i0 _ 1 8 Tryz.underlying77 hi fF fw fD rfl dM (.slice A0 (kw T C B k).length lm) (kw T C B k).length ((kw T C B k).map (Value.int .i64)) rfl (own_below hown ae) (some ⟨w5.heap.size, 0, none⟩) 1 1 [.int .i64 k] rfl _ (tH (by go_simp)) (by simp [Value.oneCell']) (by unfold maxLen; omega) oM (by simp; omega) w1.heap.size w1 ae (Nat.le_refl _) ?_; intro v' w6 aW hb6 lL))
    exact ⟨⟨k + 1, by go_num, by omega, by rw [fV.out, List.length_append, List.map_append]; exact aW, ae⟩, by simp [intOf]; omega⟩
   | false =>
    rw [hq, if_neg sM, List.append_nil] at hstep;have fV := aa hstep;clear hstep;go_wp2_with (first
     | (go_at_call 44; refine (tZ T C B k _ hv (jm.out.below ae) oM oM).mono ?_; rintro e' w5 ⟨rfl, hb5⟩; rw [hq]; obtain ⟨bX, cw, hs5⟩ := bC hb5; (try simp at hs5)))
    exact ⟨⟨k + 1, by go_num, by omega, by rw [fV.out]; exact own_below hown hb5, ae⟩, by simp [intOf]; omega⟩
  ·obtain rfl : N = k := by omega
   clear hstep;obtain ⟨A, cap, e1, hr⟩ := mZ hown;injection e1 with e1 e2 e3
   subst e1 e3;go_wp2_with fail;go_ret;exact ⟨A0, lm, rfl, hr, fun b off e => by have := rV b off e; omega, ae, vK⟩
def cO (T C B : Int) (k : Nat) : List Int := (List.range k).map (fun i => fG T C B 4 (i : Nat) 0)
def bV (T C B : Int) (k : Nat) : List Int := (List.range k).map (fun i => fG T C B 6 (i : Nat) 0)
def au (T C B : Int) : List Int := cO T C B T.toNat ++ bV T C B B.toNat
theorem xC (T C B : Int) (k : Nat) : cO T C B (k + 1) = cO T C B k ++ [fG T C B 4 (k : Nat) 0] := by unfold cO; rw [List.range_succ, List.map_append]; rfl
theorem vQ (T C B : Int) (k : Nat) : bV T C B (k + 1) = bV T C B k ++ [fG T C B 6 (k : Nat) 0] := by unfold bV; rw [List.range_succ, List.map_append]; rfl
theorem jO (T C B : Int) (k : Nat) : (cO T C B k).length = k := by unfold cO; simp
theorem ji (T C B : Int) (k : Nat) : (bV T C B k).length = k := by unfold bV; simp
theorem nK (T C B : Int) (w : World) (hv : aC T C B) (hs : ai w) : Calls Tryz.prog 23 #[(.agg #[.int .i64 T, .int .i64 C, .int .i64 B])] w (p9 (au T C B) w) := by
 have hp := hs.pos;obtain ⟨f1, f2, -, -, f5, f6⟩ := hv.1;obtain ⟨M, rfl⟩ : ∃ M : Nat, T = (M : Int) := ⟨T.toNat, by omega⟩;obtain ⟨K, rfl⟩ : ∃ K : Nat, B = (K : Int) := ⟨B.toNat, by omega⟩;have hR : au M C K = cO M C K M ++ bV M C K K := by unfold au; simp
 rw [hR];clear hR;obtain ⟨i0, hi, fF, fw, fD⟩ := info_parts uh;obtain ⟨w1, hw1⟩ : ∃ w1 : World, w1 = w.alloc (.cells #[.int .i64 M, .int .i64 C, .int .i64 K] 31) := ⟨_, rfl⟩;have e0 := cJ hw1 w.heap.size 0 M;have e1 := cJ hw1 w.heap.size 1 C;have e2 := cJ hw1 w.heap.size 2 K;have hB1 : Below w.heap.size w w1 := by rw [hw1]; exact ae
 have HS := aa (hs.below hB1);have hz1 : w.heap.size < w1.heap.size := by rw [hw1]; simp
 have Hw1 := aa hw1;clear hw1;go_enter Tryz.func23, Tryz.ntmps23;go_wp2_with fail;rw [← Hw1.out]
 go_loopw [4, 3] (fun i v wr => ∃ k : Nat, i = .int .i64 ((k : Int) + 1) ∧ k ≤ M ∧ wr.ownsRow w1.heap.size 52 1 v k ((cO M C K k).map (Value.int .i64)) ∧ Below w1.heap.size w1 wr) (fun i _ _ => M + 1 - (intOf i).toNat)
 case atStart => exact ⟨0, by go_num, by omega, World.ownsRow_nil _ _ _ _, ae⟩
 case round =>
  obtain ⟨k, rfl, hk, hown, hB⟩ := hrel;obtain ⟨A0, lm, rfl, vK, rV⟩ := aX hown;have hsz := hB.size;have f0 := cT hB e0 hz1;have f1 := cT hB e1 hz1;have f2 := cT hB e2 hz1;have jm := aa (HS.out.below hB);by_cases hlt : k < M
  ·have hle : (k : Int) + 1 ≤ (M : Int) := by omega
   have fV := aa (xC M C K k);have hsl := fun W hs' => pq M C K ((k : Int) + 1) W hv hs' oM oM;rw [show (k : Int) + 1 - 1 = (k : Nat) by omega] at hsl;have Mw := aa hsl;clear hsl;go_wp2_with (first
    | (go_at_call 34; refine (Mw.out _ (jm.out.below ae)).mono ?_; rintro e' w5 ⟨rfl, hb5⟩; obtain ⟨bX, cw, hs5⟩ := bC hb5; (try simp at hs5))
    | (at_builtin; refine aK rfl _ _ 77 rfl w1.heap.size 52 i0 _ 1 8 Tryz.underlying77 hi fF fw fD rfl dM (.slice A0 k lm) k ((cO M C K k).map (Value.int .i64)) rfl (own_below hown ae) (some ⟨w5.heap.size, 0, none⟩) 1 1 [.int .i64 (fG M C K 4 k 0)] rfl _ (tH (by go_simp)) (by simp [Value.oneCell']) (by unfold maxLen; omega) oM (by simp; omega) w1.heap.size w1 ae (Nat.le_refl _) ?_; intro v' w6 aW hb6 lL))
   exact ⟨⟨k + 1, by go_num, by omega, by rw [fV.out, List.map_append]; exact aW, ae⟩, by simp [intOf]; omega⟩
  ·obtain rfl : M = k := by omega
   go_wp2_with fail;obtain ⟨wm, Qk⟩ : ∃ wm : World, wm = wr := ⟨_, rfl⟩;rw [← Qk] at hown hB hsz f0 f1 f2 jm ⊢;clear Qk;have Ab := aa hown;clear hown
   go_loopw [20, 3] (fun i v wr => ∃ k : Nat, i = .int .i64 k ∧ k ≤ K ∧ wr.ownsRow w1.heap.size 52 1 v (M + k) ((cO M C K M ++ bV M C K k).map (Value.int .i64)) ∧ Below w1.heap.size w1 wr) (fun i _ _ => K - (intOf i).toNat)
   case atStart => exact ⟨0, by go_num, by omega, by have h := Ab.out; unfold bV; simpa using h, ae⟩
   case round =>
    clear Ab hB hsz f0 f1 f2 jm vK rV;obtain ⟨k, rfl, hk, hown, hB⟩ := hrel;obtain ⟨A0, lm, rfl, vK, rV⟩ := aX hown;have hsz := hB.size;have f0 := cT hB e0 hz1;have f1 := cT hB e1 hz1;have f2 := cT hB e2 hz1;have jm := aa (HS.out.below hB);by_cases hlt : k < K
    ·have fV := aa (vQ M C K k);go_wp2_with (first
      | (go_at_call 35; refine (uO M C K k _ hv (jm.out.below ae)).mono ?_; rintro e' w5 ⟨rfl, hb5⟩; obtain ⟨bX, cw, hs5⟩ := bC hb5; (try simp at hs5))
      | (at_builtin; refine aK rfl _ _ 77 rfl w1.heap.size 52 i0 _ 1 8 Tryz.underlying77 hi fF fw fD rfl dM (.slice A0 (M + k) lm) (M + k) ((cO M C K M ++ bV M C K k).map (Value.int .i64)) rfl (own_below hown ae) (some ⟨w5.heap.size, 0, none⟩) 1 1 [.int .i64 (fG M C K 6 k 0)] rfl _ (tH (by go_simp)) (by simp [Value.oneCell']) (by unfold maxLen; omega) oM (by simp; omega) w1.heap.size w1 ae (Nat.le_refl _) ?_; intro v' w6 aW hb6 lL))
     exact ⟨⟨k + 1, by go_num, by omega, by rw [fV.out, ← List.append_assoc, List.map_append]; exact aW, ae⟩, by simp [intOf]; omega⟩
    ·obtain rfl : K = k := (by omega);obtain ⟨A, cap, e1, hr⟩ := mZ hown;injection e1 with e1 e2 e3
     subst e1 e3;go_wp2_with fail;go_ret;have hlen : (cO M C K M ++ bV M C K K).length = M + K := (by rw [List.length_append, jO, ji]);exact ⟨A0, lm, by rw [hlen]; rfl, by rw [hlen]; exact hr, fun b off e => by have := rV b off e; omega, ae, by rw [hlen]; exact vK⟩
def nM (T C B : Int) (k : Nat) : List Int := (List.range k).flatMap (fun i => [fG T C B 1 (i : Nat) 0, fG T C B 1 (i : Nat) 1])
def bu (T C B : Int) : List Int := nM T C B T.toNat
theorem tP (T C B : Int) (k : Nat) : nM T C B (k + 1) = nM T C B k ++ [fG T C B 1 (k : Nat) 0, fG T C B 1 (k : Nat) 1] := by unfold nM; rw [List.range_succ, List.flatMap_append]; simp
theorem qD (T C B : Int) (k : Nat) : (nM T C B k).length = 2 * k := by
 induction k with
 | zero => rfl
 | succ k ih => rw [tP, List.length_append, ih]; simp; omega
theorem zE (T C B : Int) (w : World) (hv : aC T C B) (hs : ai w) : Calls Tryz.prog 26 #[(.agg #[.int .i64 T, .int .i64 C, .int .i64 B])] w (p9 (bu T C B) w) := by
 have hp := hs.pos;obtain ⟨f1, f2, -, -, f5, f6⟩ := hv.1;obtain ⟨M, rfl⟩ : ∃ M : Nat, T = (M : Int) := ⟨T.toNat, by omega⟩;have hR : bu M C B = nM M C B M := by unfold bu; simp
 rw [hR];clear hR;obtain ⟨i0, hi, fF, fw, fD⟩ := info_parts uh;obtain ⟨w1, hw1⟩ : ∃ w1 : World, w1 = w.alloc (.cells #[.int .i64 M, .int .i64 C, .int .i64 B] 31) := ⟨_, rfl⟩;have e0 := cJ hw1 w.heap.size 0 M;have e1 := cJ hw1 w.heap.size 1 C;have e2 := cJ hw1 w.heap.size 2 B;have hB1 : Below w.heap.size w w1 := by rw [hw1]; exact ae
 have HS := aa (hs.below hB1);have hz1 : w.heap.size < w1.heap.size := by rw [hw1]; simp
 have Hw1 := aa hw1;clear hw1;go_enter Tryz.func26, Tryz.ntmps26;go_wp2_with fail;rw [← Hw1.out]
 go_loopw [4, 3] (fun i v wr => ∃ k : Nat, i = .int .i64 ((k : Int) + 1) ∧ k ≤ M ∧ wr.ownsRow w1.heap.size 52 1 v (2 * k) ((nM M C B k).map (Value.int .i64)) ∧ Below w1.heap.size w1 wr) (fun i _ _ => M + 1 - (intOf i).toNat)
 case atStart => exact ⟨0, by go_num, by omega, World.ownsRow_nil _ _ _ _, ae⟩
 case round =>
  obtain ⟨k, rfl, hk, hown, hB⟩ := hrel;obtain ⟨A0, lm, rfl, vK, rV⟩ := aX hown;have hsz := hB.size;have f0 := cT hB e0 hz1;have f1 := cT hB e1 hz1;have f2 := cT hB e2 hz1;have jm := aa (HS.out.below hB);by_cases hlt : k < M
  ·have hle : (k : Int) + 1 ≤ (M : Int) := by omega
   have fV := aa (tP M C B k);have hsl := fun W hs' => AU M C B ((k : Int) + 1) W hv hs' oM oM;have hsh := fun W hs' => Fp M C B ((k : Int) + 1) W hv hs' oM oM;rw [show (k : Int) + 1 - 1 = (k : Nat) by omega] at hsl hsh;have Mw := aa hsl;have Hsh := aa hsh;clear hsl hsh;have rO := zL w.heap.size wr;go_wp2_with fail
   go_region_held3 (fun w' => w'.cell? ⟨w.heap.size, 0, none⟩ = some (.int .i64 M) ∧ w'.cell? ⟨w.heap.size, 1, none⟩ = some (.int .i64 C) ∧ w'.cell? ⟨w.heap.size, 2, none⟩ = some (.int .i64 B))
    (first | exact ⟨f0, f1, f2⟩ | exact ⟨(ed.cell (p := ⟨w.heap.size, 0, none⟩) hz1).trans e0, (ed.cell (p := ⟨w.heap.size, 1, none⟩) hz1).trans e1, (ed.cell (p := ⟨w.heap.size, 2, none⟩) hz1).trans e2⟩ | go_keep)
    (first
     | (go_at_call 47; refine (Mw.out _ (jm.out.below ae)).mono ?_; rintro e' w5 ⟨rfl, bU⟩; have hb5 : Below _ _ w5 := jM; clear bU; obtain ⟨bX, cw, hs5⟩ := bC hb5; (try simp at hs5); have lF := zL w.heap.size w5)
     | (go_at_call 48; refine (Hsh.out _ (jm.out.below ae)).mono ?_; rintro e' w6 ⟨rfl, fe⟩; have hb6 : Below _ _ w6 := (by first | with_reducible exact dx fe | exact fe); clear fe; obtain ⟨iR, iQ, hs6⟩ := bC hb6; (try simp at hs6); have zX := zL w.heap.size w6)
     | (refine sS (by rfl) _ _ 77 (by rfl) w1.heap.size 52 i0 _ 1 8 Tryz.underlying77 hi fF fw fD rfl dM (.slice A0 (2 * k) lm) (2 * k) ((nM M C B k).map (Value.int .i64)) (by rfl) (own_below hown ae) _ 2 2 [.int .i64 (fG M C B 1 k 0), .int .i64 (fG M C B 1 k 1)] (by rfl) _ (NH (by go_simp) (by go_simp)) (by simp [Value.oneCell']) (by unfold maxLen; omega) oM (by simp; omega) w1.heap.size w1 ae (Nat.le_refl _) ?_; intro v' w7 kB ed ae6))
   all_goals go_wp2_with fail
   all_goals exact ⟨⟨k + 1, by go_num, by omega, by rw [fV.out, List.map_append, show 2 * (k + 1) = 2 * k + 2 by omega]; exact kB, ae⟩, by simp [intOf]; omega⟩
  ·obtain rfl : M = k := by omega
   obtain ⟨A, cap, e1, hr⟩ := mZ hown;injection e1 with e1 e2 e3
   subst e1 e3;go_wp2_with fail;go_ret;have hlen : (nM M C B M).length = 2 * M := qD M C B M;exact ⟨A0, lm, by rw [hlen]; rfl, by rw [hlen]; exact hr, fun b off e => by have := rV b off e; omega, ae, by rw [hlen]; exact vK⟩
theorem H4 (T C B : Int) (w : World) (hv : aC T C B) (hs : ai w) : Calls Tryz.prog 21 #[(.agg #[.int .i64 T, .int .i64 C, .int .i64 B])] w (mP (aY T C B) w) := (zN T C B w hv hs).mono (fun _ _ h => h.post)
theorem vo (T C B : Int) (w : World) (hv : aC T C B) (hs : ai w) : Calls Tryz.prog 23 #[(.agg #[.int .i64 T, .int .i64 C, .int .i64 B])] w (mP (au T C B) w) := (nK T C B w hv hs).mono (fun _ _ h => h.post)
theorem G6 (T C B : Int) (w : World) (hv : aC T C B) (hs : ai w) : Calls Tryz.prog 26 #[(.agg #[.int .i64 T, .int .i64 C, .int .i64 B])] w (mP (bu T C B) w) := (zE T C B w hv hs).mono (fun _ _ h => h.post)
def bD (x : W3) : Bool := x.v == 0 || x.v == 3
def ei (x : W3) : W3 := ⟨2, x.r, 0⟩
theorem iD (x : W3) (w : World) : Calls Tryz.prog 24 #[(qg x)] w (cd (.bool (bD x)) w) := by
 unfold bD;cases h : (x.v == 0) with
 | true =>
  go_enter Tryz.func24, Tryz.ntmps24;go_wp2_with fail;go_ret;exact ⟨rfl, ae⟩
 | false =>
  go_enter Tryz.func24, Tryz.ntmps24;go_wp2_with fail;go_ret;exact ⟨rfl, ae⟩
theorem uJ (x : W3) (w : World) (h0 : 0 ≤ x.r) (h1 : x.r < 4294967296) : Calls Tryz.prog 25 #[(qg x)] w (cd (.agg #[.int .i64 2, .int .u32 x.r, .int .u32 0]) w) := by
 have hw : wrap64 x.r = x.r := by unfold wrap64; omega
 go_enter Tryz.func25, Tryz.ntmps25;go_wp2_with (first
  | (go_at_call 38; (try rw [hw]); refine rB (sU 2 x.r _ h0 h1) ?_; intro w1 hb1 ar aA hs1; (try simp at hs1); have hz1 := zL (w.heap.size + 1) w1))
 exact bodyPost_ret (v := .agg #[.int .i64 2, .int .u32 x.r, .int .u32 0]) (by simp [results, Tryz.results25, go_sem, ar]) rfl ⟨rfl, ae⟩
theorem jp : (Tryz.prog.info? 56).map (fun i => (i.zero, i.size, i.bytes)) = some (some (.agg #[.int .i64 0, .int .u32 0, .int .u32 0]), 3, 16) := by kernel_rfl
theorem CQ (b n cap : Nat) (ws : List W3) (w : World) (hM : Mem b ws w) (hl : ws.length = n) (hn : 0 < n) (hnm : n ≤ 1000000) :
  Calls Tryz.prog 20 #[.slice (some ⟨b, 0, none⟩) n cap] w fun e w' => ∃ g cap' : Nat, e = .returned (.slice (some ⟨g, 0, none⟩) n cap') ∧ Mem g ws w' ∧ w.heap.size ≤ g ∧ n ≤ cap' ∧ cap' ≤ maxLen ∧ Below w.heap.size w w' := by
 obtain ⟨i0, hi, fF, fw, fD⟩ := info_parts jp;have HM := aa hM;have Hl := aa hl;have hb := hM.2.2;have hof := xg ws;have heq : ∀ W : World, (binOp .eql 25 (.slice (some ⟨b, 0, none⟩) n cap) (.slice none 0 0)).run Tryz.prog W = .ok (.bool false) W := fun W => by kernel_rfl
 clear hM hl;go_enter Tryz.func20, Tryz.ntmps20;go_wp2_with (first
  | (at_builtin; refine aK rfl _ _ 25 rfl w.heap.size 56 i0 _ 3 16 Tryz.underlying25 hi fF fw fD rfl dM (.slice (some ⟨w.heap.size, 0, none⟩) 0 0) 0 [] rfl (World.ownsRow_made w #[] 0 (Nat.le_refl _) (Nat.zero_le _) rfl) (some ⟨b, 0, none⟩) n cap (ws.flatMap ig) rfl _ (by have h := (HM.out.below (w' := w.alloc (.cells #[] 56)) (B := w.heap.size) ae hb).rd; rw [Hl.out] at h; exact h) hof (by unfold maxLen; omega) oM sM w.heap.size w ae (Nat.le_refl _) ?_; intro v' w6 aW hb6 lL))
 rw [Nat.zero_add, List.nil_append] at aW;obtain ⟨A, cap', rfl, hcp, hbl⟩ := aX aW;have hcm := xN aW;have hf := aW.2;rcases hf with ⟨-, h0⟩ | ⟨g, CS, cur, e2, -⟩
 ·omega
 injection e2 with e2 e3 e4
 subst e2 e4;obtain ⟨Jf, hg, -⟩ := Mem.of_own aW hn;go_wp2_with fail;go_ret;exact ⟨g, cap', rfl, Jf, hg, hcp, hcm, ae⟩
def mg (T C B : Int) (ws o : List W3) (a : Int) : List W3 := o.set a.toNat (aj T C B ws a.toNat)
def lD (ws o : List W3) (a : Int) : List W3 := if bD (ws.getD a.toNat z3) = true then o.set a.toNat (ei (ws.getD a.toNat z3)) else o
def pG (o : List W3) (a : Int) : List W3 := o.set a.toNat z3
def kr (T C B : Int) (ws : List W3) : List W3 := (aY T C B).foldl (mg T C B ws) ws
def lC (T C B : Int) (ws : List W3) : List W3 := (au T C B).foldl (lD ws) (kr T C B ws)
def dI (T C B : Int) (ws : List W3) : List W3 := (bu T C B).foldl pG (lC T C B ws)
theorem kE (T C B : Int) (ws : List W3) : ∀ (l : List Int) (o : List W3), (l.foldl (mg T C B ws) o).length = o.length
 | [], _ => rfl
 | a :: l, o => by rw [List.foldl_cons, kE T C B ws l, mg, List.length_set]
theorem nj (ws : List W3) : ∀ (l : List Int) (o : List W3), (l.foldl (lD ws) o).length = o.length
 | [], _ => rfl
 | a :: l, o => by
  rw [List.foldl_cons, nj ws l, lD];split
  ·rw [List.length_set]
  ·rfl
theorem qU : ∀ (l : List Int) (o : List W3), (l.foldl pG o).length = o.length
 | [], _ => rfl
 | a :: l, o => by rw [List.foldl_cons, qU l, pG, List.length_set]
theorem fP (T C B : Int) (ws : List W3) : (dI T C B ws).length = ws.length := by
 unfold dI lC kr;rw [qU, nj, kE]
theorem pI {T C B : Int} {a : Int} (h : a ∈ aY T C B) : iY T C B a = true := by
 unfold aY kw at h;exact (List.mem_filter.1 h).2
theorem jI (T C B : Int) (hv : aC T C B) (p : Nat) (hp : p ≤ 6) (i more : Int) (h0 : 0 ≤ i) (h1 : i < bg T C B p) (m0 : 0 ≤ more) (m1 : more < (if p = 5 then 8 else gq p)) : 0 ≤ fG T C B p i more ∧ fG T C B p i more < ah T C B 7 := by
 have e7 : ah T C B 7 = ah T C B 6 + cY T C B 6 := rfl;have e6 : ah T C B 6 = ah T C B 5 + cY T C B 5 := rfl;have e5 : ah T C B 5 = ah T C B 4 + cY T C B 4 := rfl;have e4 : ah T C B 4 = ah T C B 3 + cY T C B 3 := rfl;have e3 : ah T C B 3 = ah T C B 2 + cY T C B 2 := rfl;have e2 : ah T C B 2 = ah T C B 1 + cY T C B 1 := rfl;have e1 : ah T C B 1 = ah T C B 0 + cY T C B 0 := rfl;have e0 : ah T C B 0 = 0 := rfl;have l0 := (dF T C B hv.1 0).1;have l1 := (dF T C B hv.1 1).1;have l2 := (dF T C B hv.1 2).1;have l3 := (dF T C B hv.1 3).1;have l4 := (dF T C B hv.1 4).1;have l5 := (dF T C B hv.1 5).1;have l6 := (dF T C B hv.1 6).1;unfold fG;rw [if_pos ⟨h0, h1⟩]
 match p, hp with
 | 0, _ =>
  have QA : i < 1 := h1;have q : cY T C B 0 = 8 := rfl;have Qf : more < 8 := m1;show 0 ≤ ah T C B 0 + i * 8 + more ∧ ah T C B 0 + i * 8 + more < ah T C B 7;clear m1 h1;omega
 | 1, _ =>
  have QA : i < T := h1;have q : cY T C B 1 = 8 * T := rfl;have Qf : more < 8 := m1;show 0 ≤ ah T C B 1 + i * 8 + more ∧ ah T C B 1 + i * 8 + more < ah T C B 7;clear m1 h1;omega
 | 2, _ =>
  have QA : i < T := h1;have q : cY T C B 2 = 8 * T := rfl;have Qf : more < 8 := m1;show 0 ≤ ah T C B 2 + i * 8 + more ∧ ah T C B 2 + i * 8 + more < ah T C B 7;clear m1 h1;omega
 | 3, _ =>
  have QA : i < C := h1;have q : cY T C B 3 = (C + 7) / 8 * 8 := rfl;have Qf : more < 1 := m1;show 0 ≤ ah T C B 3 + i * 1 + more ∧ ah T C B 3 + i * 1 + more < ah T C B 7;clear m1 h1;omega
 | 4, _ =>
  have QA : i < T := h1;have q : cY T C B 4 = 104 * T := rfl;have Qf : more < 104 := m1;show 0 ≤ ah T C B 4 + i * 104 + more ∧ ah T C B 4 + i * 104 + more < ah T C B 7;clear m1 h1;omega
 | 5, _ =>
  have QA : i < B := h1;have q : cY T C B 5 = 8 := by
   show (if 0 < B then (8 : Int) else 0) = 8;rw [if_pos oM]
  have Qf : more < 8 := m1;show 0 ≤ ah T C B 5 + i * 0 + more ∧ ah T C B 5 + i * 0 + more < ah T C B 7;clear m1 h1;omega
 | 6, _ =>
  have QA : i < B := h1;have q : cY T C B 6 = 32 * B := rfl;have Qf : more < 32 := m1;show 0 ≤ ah T C B 6 + i * 32 + more ∧ ah T C B 6 + i * 32 + more < ah T C B 7;clear m1 h1;omega
theorem lW {T C B : Int} (hv : aC T C B) {a : Int} (h : a ∈ au T C B) : 0 ≤ a ∧ a < ah T C B 7 := by
 unfold au cO bV at h;rw [List.mem_append, List.mem_map, List.mem_map] at h;rcases h with ⟨i, hi, rfl⟩ | ⟨i, hi, rfl⟩
 ·rw [List.mem_range] at hi;exact jI T C B hv 4 dM _ _ oM (by show (i : Int) < T; omega) dM dM
 ·rw [List.mem_range] at hi;exact jI T C B hv 6 dM _ _ oM (by show (i : Int) < B; omega) dM dM
theorem tQ {T C B : Int} (hv : aC T C B) {a : Int} (h : a ∈ bu T C B) : 0 ≤ a ∧ a < ah T C B 7 := by
 unfold bu nM at h;rw [List.mem_flatMap] at h;obtain ⟨i, hi, h⟩ := h;rw [List.mem_range] at hi;simp only [List.mem_cons, List.not_mem_nil, or_false] at h;rcases h with rfl | rfl
 ·exact jI T C B hv 1 dM _ _ oM (by show (i : Int) < T; omega) dM dM
 ·exact jI T C B hv 1 dM _ _ oM (by show (i : Int) < T; omega) dM dM
theorem GU {w : World} {cs : Array Value} {t : TypeId} {n size : Nat} {xs : List Value} (hx : xs = cs.toList) (hl : xs.length = n * size) : Rd (w.alloc (.cells cs t)) (w.alloc (.cells cs t)).heap.size size (some ⟨w.heap.size, 0, none⟩) n xs := by
 subst hx;refine ⟨hl, fun _ => ⟨w.heap.size, 0, rfl, by simp, fun j u hu => ?_⟩⟩;have hh : (w.alloc (.cells cs t)).heap[w.heap.size]? = some (.cells cs t (0, 0)) := heap_alloc_new w _;rw [Nat.zero_add];simp only [World.cell?, hh];rw [← Array.getElem?_toList];exact hu
def rC (e : En) : List W3 := [(dW e).1, (dW e).2.1, (dW e).2.2]
def jg (seq st : Int) (es : List En) : List W3 := [⟨st, seq, 0⟩, ⟨es.length, 0, 0⟩] ++ es.flatMap rC
theorem EK (es : List En) : (es.flatMap rC).length = 3 * es.length := by
 induction es with
 | nil => rfl
 | cons e es ih => rw [List.flatMap_cons, List.length_append, ih]; simp [rC]; omega
theorem AH (seq st : Int) (es : List En) : (jg seq st es).length = 2 + 3 * es.length := by unfold jg; rw [List.length_append, EK]; rfl
def AJ (seq st : Int) (n : Nat) (es : List En) : List W3 := [⟨st, seq, 0⟩, ⟨n, 0, 0⟩] ++ es.flatMap rC
theorem FC (seq st : Int) (n : Nat) (es : List En) (e : En) : AJ seq st n (es ++ [e]) = AJ seq st n es ++ rC e := by unfold AJ; rw [List.flatMap_append, List.append_assoc]; simp
def P6 (ws : List W3) (n : Nat) (w : World) (e : Ending) (w' : World) : Prop := ∃ (A : Option Addr) (cap : Nat), e = .returned (.tuple #[.slice A n cap, .int .i64 0]) ∧ Rd w' w'.heap.size 3 A n (ws.flatMap ig) ∧ (∀ b off, A = some ⟨b, off, none⟩ → w.heap.size ≤ b) ∧ Below w.heap.size w w'
theorem FP {T C B who seq st : Int} {es : List En} (h : eu T C B who seq st es = 0) : 1 ≤ seq ∧ seq ≤ 16777215 ∧ es.length ≤ 32 := by
 unfold eu at h;split at h
 ·cases h
 ·split at h
  ·cases h
  ·split at h
   ·cases h
   ·split at h
    ·exact absurd h aM
    ·split at h
     ·cases h
     ·split at h
      ·cases h
      ·split at h
       ·cases h
       ·have := qC T C B who;omega
theorem xM (w : World) (cs : Array Value) (t : TypeId) (n size : Nat) (hm : n ≤ maxLen) (hs : cs.size = n * size) : (w.alloc (.cells cs t)).ownsRow w.heap.size t size (.slice (some ⟨w.heap.size, 0, none⟩) n n) n cs.toList := World.ownsRow_lit w cs n (Nat.le_refl _) hm hs
theorem CO (T C B who seq st : Int) (A : Option Addr) (n cap : Nat) (es : List En) (w : World) (hv : aC T C B) (hs : ai w) (h0 : -1000 ≤ who) (h1 : who ≤ 1000) (hr : Rd w w.heap.size 6 A n (es.flatMap ec)) (hl : es.length = n) (hn : n ≤ 1000) (hcap : n ≤ cap) (hc2 : cap ≤ maxLen) (hok : ∀ e ∈ es, e.ok) (hE : eu T C B who seq st es ≠ 0) :
  Calls Tryz.prog 13 #[(.agg #[.int .i64 T, .int .i64 C, .int .i64 B]), (.agg #[.int .i64 who, .int .i64 seq, .int .i64 st, .slice A n cap])] w (cd (.tuple #[.slice none 0 0, .int .i64 (eu T C B who seq st es)]) w) := by
 have hp := hs.pos;have hck := fun W hs' uU => oP T C B who seq st A n cap es W hv hs' h0 h1 uU hl hn hcap hc2 hok;obtain ⟨E, hEe⟩ : ∃ E, E = eu T C B who seq st es := ⟨_, rfl⟩;simp only [← hEe] at hck hE ⊢;have Hck := aa hck;have Hr := aa hr;have hzb : (E != 0) = true := by simp [hE]
 clear hck hr hl hEe hok hE;go_enter Tryz.func13, Tryz.ntmps13;go_wp2_with (first
  | (go_at_call 37; refine (Hck.out _ (hs.below ae) ((Hr.out.below ae).more (by simp; omega))).mono ?_; rintro e w1 ⟨rfl, hb1⟩; obtain ⟨ar, aA, hs1⟩ := bC hb1; (try simp at hs1); have hz1 := zL w.heap.size w1; have hy1 := zL (w.heap.size + 1) w1; have hq1 := zL 0 w1))
 go_ret2
 exact ⟨rfl, ae⟩
theorem NA (x y z : W3) : [x, y, z].flatMap ig = [.int .i64 x.v, .int .u32 x.r, .int .u32 x.f, .int .i64 y.v, .int .u32 y.r, .int .u32 y.f, .int .i64 z.v, .int .u32 z.r, .int .u32 z.f] := rfl
theorem AG (T C B who seq st : Int) (A : Option Addr) (n cap : Nat) (es : List En) (w : World) (hv : aC T C B) (hs : ai w) (h0 : -1000 ≤ who) (h1 : who ≤ 1000) (hr : Rd w w.heap.size 6 A n (es.flatMap ec)) (hl : es.length = n) (hn : n ≤ 1000) (hcap : n ≤ cap) (hc2 : cap ≤ maxLen) (hok : ∀ e ∈ es, e.ok) (hE : eu T C B who seq st es = 0) :
  Calls Tryz.prog 13 #[(.agg #[.int .i64 T, .int .i64 C, .int .i64 B]), (.agg #[.int .i64 who, .int .i64 seq, .int .i64 st, .slice A n cap])] w (P6 (jg seq st es) (2 + 3 * n) w) := by
 have hp := hs.pos;obtain ⟨i0, hi, fF, fw, fD⟩ := info_parts jp;have hck := fun W hs' uU => oP T C B who seq st A n cap es W hv hs' h0 h1 uU hl hn hcap hc2 hok;obtain ⟨q1, q2, q3⟩ := FP hE;rw [hE] at hck;have Hck := aa hck;have Hr := aa hr;have Hl := aa hl;obtain ⟨R, hR⟩ : ∃ R, R = jg seq st es := ⟨_, rfl⟩;rw [← hR];have HR : Hid (R = AJ seq st n es) := aa (by rw [hR, jg, hl]; rfl);rw [hl] at q3;clear hck hr hl hE hok hR;go_enter Tryz.func13, Tryz.ntmps13;go_wp2_with (first
  | (go_at_call 37; refine (Hck.out _ (hs.below ae) ((Hr.out.below ae).more (by simp; omega))).mono ?_; rintro e w1 ⟨rfl, hb1⟩; obtain ⟨ar, aA, hs1⟩ := bC hb1; (try simp at hs1); have hz1 := zL w.heap.size w1; have hy1 := zL (w.heap.size + 1) w1; have hq1 := zL 0 w1))
 have e0 := cI w1 w.heap.size 0 T;have e1 := cI w1 w.heap.size 1 C;have e2 := cI w1 w.heap.size 2 B;have d0 := cI w1 (w.heap.size + 1) 0 who;have d1 := cI w1 (w.heap.size + 1) 1 seq;have d2 := cI w1 (w.heap.size + 1) 2 st;have d3 := cE w1 (w.heap.size + 1) 3 (.slice A n cap);have hB1 : Below w.heap.size w w1 := ae;have Nx := aa (hs.below hB1);have QH := aa (Hr.out.below hB1);clear ar aA hb1
 go_region_held3 (fun w' => w'.cell? ⟨w.heap.size + 1, 0, none⟩ = some (.int .i64 who) ∧ w'.cell? ⟨w.heap.size + 1, 1, none⟩ = some (.int .i64 seq) ∧ w'.cell? ⟨w.heap.size + 1, 2, none⟩ = some (.int .i64 st) ∧ w'.cell? ⟨w.heap.size + 1, 3, none⟩ = some (.slice A n cap))
  (first | exact ⟨d0, d1, d2, d3⟩ | go_keep)
  (first
   | (go_at_call 38; refine (sU st seq _ oM oM).mono ?_; rintro e' w2 ⟨rfl, kX⟩; have hb2 : Below _ _ w2 := qZ; clear kX; obtain ⟨aH, aL, hs2⟩ := bC hb2; (try simp at hs2); have hz2 := zL w.heap.size w2; have hy2 := zL (w.heap.size + 1) w2))
 go_wp2_with fail;have Hr2 := aa (QH.out.below (hb2.mono oM));have hB2 : Below w.heap.size w w2 := hB1.trans (hb2.mono oM);have c0 := (aH _ 0 hy1).trans d0;have c1 := (aH _ 1 hy1).trans d1;have c2 := (aH _ 2 hy1).trans d2;have c3 := (aH _ 3 hy1).trans d3;clear aH aL d0 d1 d2 d3
 go_loopw [30, 7] (fun i v wr => ∃ k : Nat, i = .int .i64 k ∧ k ≤ n ∧ wr.ownsRow w2.heap.size 56 3 v (2 + 3 * k) ((AJ seq st n (es.take k)).flatMap ig) ∧ Below w2.heap.size w2 wr) (fun i _ _ => n - (intOf i).toNat)
 case atStart => exact ⟨0, by go_num, by omega, xM w2 #[.int .i64 st, .int .u32 seq, .int .u32 0, .int .i64 n, .int .u32 0, .int .u32 0] 56 2 3 dM rfl, ae⟩
 case round =>
  obtain ⟨k, rfl, hk, hown, hB⟩ := hrel;obtain ⟨A0, lm, rfl, vK, rV⟩ := aX hown;have hsz := hB.size;have hBr : Below w.heap.size w wr := hB2.trans (hB.mono oM);by_cases hlt : k < n
  ·have hz1 : es[k]? = some (es[k]'(by rw [Hl.out]; omega)) := List.getElem?_eq_getElem _;obtain ⟨b2, off, rfl, Fl, hcA⟩ := Hr2.out.elem (fun _ => rfl) hlt hz1;obtain ⟨e, he⟩ : ∃ e, e = es[k]'(by rw [Hl.out]; omega) := ⟨_, rfl⟩;rw [← he] at hcA hz1;have TK := zL b2 w2;have hbw : ∀ j u, (ec e)[j]? = some u → wr.cell? ⟨b2, off + k * 6 + j, none⟩ = some u := fun j u hu => (hB.cell (p := ⟨b2, off + k * 6 + j, none⟩) TK).trans (hcA j u hu);have l0 : wr.cell? ⟨b2, off + k * 6, none⟩ = some (.int .i64 e.a) := hbw 0 _ rfl;have l1 : wr.cell? ⟨b2, off + k * 6 + 1, none⟩ = some (.int .i64 e.o.v) := hbw 1 _ rfl;have l2 : wr.cell? ⟨b2, off + k * 6 + 2, none⟩ = some (.int .u32 e.o.r) := hbw 2 _ rfl;have l3 : wr.cell? ⟨b2, off + k * 6 + 3, none⟩ = some (.int .u32 e.o.f) := hbw 3 _ rfl;have l4 : wr.cell? ⟨b2, off + k * 6 + 4, none⟩ = some (.int .i64 e.n) := hbw 4 _ rfl;have l5 : wr.cell? ⟨b2, off + k * 6 + 5, none⟩ = some (.bool e.w) := hbw 5 _ rfl;have hki : (0 : Int) ≤ (k : Int) := by omega
   have hkj : (k : Int) < (n : Int) := by omega
   have pL : es.take (k + 1) = es.take k ++ [e] := by rw [List.take_add_one, hz1]; rfl
   have fV : Hid ((AJ seq st n (es.take (k + 1))).flatMap ig = (AJ seq st n (es.take k)).flatMap ig ++ (rC e).flatMap ig) := aa (by
    rw [pL, FC, List.flatMap_append])
   have Hpk := aa (fun W => zD e W);obtain ⟨x, hx⟩ : ∃ x, x = (dW e).1 := ⟨_, rfl⟩;obtain ⟨y, hy⟩ : ∃ x, x = (dW e).2.1 := ⟨_, rfl⟩;obtain ⟨z, hz⟩ : ∃ x, x = (dW e).2.2 := ⟨_, rfl⟩;have hp3 : rC e = [x, y, z] := by rw [hx, hy, hz]; rfl
   rw [hp3, NA] at fV;have Hx := aa hx;have Hy := aa hy;have Hz := aa hz;have SB := zL b2 wr;clear hcA hbw he hz1 pL hx hy hz hp3;go_wp2_with (first
    | (go_at_call 39; refine (Hpk.out _).mono ?_; rintro e' w5 ⟨rfl, hb5⟩; rw [← Hx.out, ← Hy.out, ← Hz.out]; obtain ⟨bX, cw, hs5⟩ := bC hb5; (try simp at hs5))
    | (at_builtin; refine aK rfl _ _ 25 rfl w2.heap.size 56 i0 _ 3 16 Tryz.underlying25 hi fF fw fD rfl dM (.slice A0 (2 + 3 * k) lm) (2 + 3 * k) ((AJ seq st n (es.take k)).flatMap ig) rfl (own_below hown ae) (some ⟨w5.heap.size, 0, none⟩) 3 3 [.int .i64 x.v, .int .u32 x.r, .int .u32 x.f, .int .i64 y.v, .int .u32 y.r, .int .u32 y.f, .int .i64 z.v, .int .u32 z.r, .int .u32 z.f] rfl _ (GU rfl rfl) (by simp [Value.oneCell']) (by unfold maxLen; omega) oM (by simp; omega) w2.heap.size w2 ae (Nat.le_refl _) ?_; intro v' w6 aW hb6 lL))
   exact ⟨⟨k + 1, by go_num, by omega, by rw [fV.out, show 2 + 3 * (k + 1) = 2 + 3 * k + 3 by omega]; exact aW, ae⟩, by simp [intOf]; omega⟩
  ·obtain rfl : n = k := by omega
   rw [List.take_of_length_le (by rw [Hl.out]; exact Nat.le_refl _), ← HR.out] at hown;obtain ⟨A', cap', Jv, hr⟩ := mZ hown;injection Jv with Jv e2' e3'
   subst Jv e3';have C9 := aa hr;clear hr hown;go_wp2_with fail
   go_ret2
   exact ⟨A0, lm, rfl, C9.out, fun b off e => by have := rV b off e; omega, hBr⟩
theorem kS {ws : List W3} (hok : ∀ x ∈ ws, x.ok) (k : Nat) : (ws.getD k z3).ok := by
 rw [List.getD_eq_getElem?_getD];cases h : ws[k]? with
 | none => exact ⟨by decide, by decide, by decide, by decide, by decide, by decide⟩
 | some x => exact hok x (List.mem_of_getElem? h)
def gw (n : Int) : Prop := -9223372036854775808 ≤ n ∧ n ≤ 9223372036854775807
theorem Ei (x y z : W3) (hz : z.ok) : gw (dN x y z).1.n := by
 unfold dN;split
 ·exact ⟨by decide, by decide⟩
 ·split
  ·exact ⟨hz.1, hz.2.1⟩
  ·exact ⟨by decide, by decide⟩
theorem DU {ws : List W3} (hok : ∀ x ∈ ws, x.ok) {p : Nat} : ∀ {k : Nat} {es : List En}, dQ ws p k = some es → ∀ e ∈ es, gw e.n
 | 0, es, h => by
  simp only [dQ, Option.some.injEq] at h;subst h;simp
 | k + 1, es, h => by
  unfold dQ at h;cases h1 : dQ ws p k with
  | none => rw [h1] at h; cases h
  | some es' =>
   rw [h1] at h;simp only [] at h;split at h
   ·injection h with h
    subst h;intro e he;rcases List.mem_append.1 he with he | he
    ·exact DU hok h1 e he
    ·rw [List.mem_singleton.1 he];exact Ei _ _ _ (kS hok _)
   ·cases h
theorem KR {T C B who sq st : Int} {ws : List W3} {es : List En} (hok : ∀ x ∈ ws, x.ok) (h : gK T C B ws who = some (sq, st, es)) : ∀ e ∈ es, gw e.n := by
 unfold gK at h;split at h
 ·cases h
 ·split at h
  ·cases he : dQ ws (aF T C B who).toNat (ws.getD ((aF T C B who).toNat + 1) z3).v.toNat with
   | none => rw [he] at h; cases h
   | some es' =>
    rw [he] at h;simp only [] at h;split at h
    ·injection h with h
     injection h with _ h
     injection h with _ h
     subst h;exact DU hok he
    ·cases h
  ·cases h
theorem mX {x : W3} (h : x.ok) : (dV x).ok := ⟨h.1, h.2.1, h.2.2.1, h.2.2.2.1, by show (0 : Int) ≤ 0; decide, by show (0 : Int) < 4294967296; decide⟩
theorem zS (T C B : Int) {ws : List W3} (hok : ∀ x ∈ ws, x.ok) (p : Nat) : (aj T C B ws p).ok := by
 have hx := kS hok p;unfold aj;simp only [];split
 ·exact mX hx
 ·split
  ·exact mX hx
  ·rename_i hr;split
   ·split
    ·exact mX hx
    ·rename_i hf;have hm := List.mem_of_find?_eq_some hf;have hn := KR hok hr _ hm;refine ⟨hn.1, hn.2, ?_, ?_, by show (0 : Int) ≤ 0; decide, by show (0 : Int) < 4294967296; decide⟩
     ·show 0 ≤ sL _; unfold sL; omega
     ·show sL _ < 4294967296; unfold sL; omega
   ·exact mX hx
theorem od {o : List W3} {x : W3} {k : Nat} (ho : ∀ x ∈ o, x.ok) (hx : x.ok) : ∀ y ∈ o.set k x, y.ok := fun y hy => by
 rcases List.mem_or_eq_of_mem_set hy with h | h
 ·exact ho y h
 ·rw [h]; exact hx
theorem nE : z3.ok := ⟨by decide, by decide, by decide, by decide, by decide, by decide⟩
theorem Ax (T C B : Int) {ws : List W3} (hok : ∀ x ∈ ws, x.ok) : ∀ (l : List Int) (o : List W3), (∀ x ∈ o, x.ok) → ∀ x ∈ l.foldl (mg T C B ws) o, x.ok
 | [], _, h => h
 | _ :: l, _, h => Ax T C B hok l _ (od h (zS T C B hok _))
theorem Aw {ws : List W3} (hok : ∀ x ∈ ws, x.ok) : ∀ (l : List Int) (o : List W3), (∀ x ∈ o, x.ok) → ∀ x ∈ l.foldl (lD ws) o, x.ok
 | [], _, h => h
 | a :: l, _, h => Aw hok l _ (by
  unfold lD;split
  ·have hx := kS hok a.toNat;exact od h ⟨by show -9223372036854775808 ≤ (2 : Int); decide, by show (2 : Int) ≤ 9223372036854775807; decide, hx.2.2.1, hx.2.2.2.1, by show (0 : Int) ≤ 0; decide, by show (0 : Int) < 4294967296; decide⟩
  ·exact h)
theorem Au : ∀ (l : List Int) (o : List W3), (∀ x ∈ o, x.ok) → ∀ x ∈ l.foldl pG o, x.ok
 | [], _, h => h
 | _ :: l, _, h => Au l _ (od h nE)
theorem zA (T C B : Int) {ws : List W3} (hok : ∀ x ∈ ws, x.ok) : ∀ x ∈ dI T C B ws, x.ok := Au _ _ (Aw hok _ _ (Ax T C B hok _ _ hok))
theorem xJ {w : World} {B n : Nat} {A : Option Addr} {l : List Int} (h : Rd w B 1 A n (l.map (Value.int .i64))) {k : Nat} {a : Int} (hk : k < n) (ha : l[k]? = some a) : ∃ b off, A = some ⟨b, off, none⟩ ∧ b < B ∧ w.cell? ⟨b, off + k, none⟩ = some (.int .i64 a) := by
 obtain ⟨b, off, e, hB, hc⟩ := h.2 oM;exact ⟨b, off, e, hB, hc k _ (by rw [List.getElem?_map, ha]; rfl)⟩
def xt (ws : List W3) (n : Nat) (w : World) (e : Ending) (w' : World) : Prop := ∃ g cap' : Nat, e = .returned (.tuple #[.slice (some ⟨g, 0, none⟩) n cap', .int .i64 0]) ∧ Mem g ws w' ∧ w.heap.size ≤ g ∧ n ≤ cap' ∧ cap' ≤ maxLen ∧ Below w.heap.size w w'
theorem yZ (T C B : Int) (b n cap : Nat) (ws : List W3) (w : World) (hv : aC T C B) (hs : ai w) (hM : Mem b ws w) (hl : ws.length = n) (hnm : n ≤ 1000000) (hcap : n ≤ cap) (hok : ∀ x ∈ ws, x.ok) (hn : ah T C B 7 = (n : Int)) :
  Calls Tryz.prog 7 #[(.agg #[.int .i64 T, .int .i64 C, .int .i64 B]), .slice (some ⟨b, 0, none⟩) n cap] w (xt (dI T C B ws) n w) := by
 have hpos := hs.pos;have hb := hM.2.2;have hn0 : 0 < n := by
  have h1 := qT T C B;have h2 := (fC T C B hv.1 4).1;obtain ⟨f1, -⟩ := hv.1;have hx : (if 0 < B then (8 : Int) else 0) ≥ 0 := by split <;> omega
  have h5 := hv.1.2.2.2.2.1;omega
 have HN := aa hn;have HM := aa hM;have Hl := aa hl;have pd := aa hok;have hnn : ¬ ((n : Int) < (n : Int)) := by omega
 have hlm : (aY T C B).length ≤ 4096 := by
  have h1 := qE T C B (ah T C B 7).toNat;have h2 := hv.2;unfold aY;omega
 have hls : (au T C B).length ≤ 4096 := by
  unfold au;rw [List.length_append, jO, ji];obtain ⟨f1, f2, f3, f4, f5, f6⟩ := hv.1;omega
 have hlo : (bu T C B).length ≤ 4096 := by
  unfold bu;rw [qD];obtain ⟨f1, f2, f3, f4, f5, f6⟩ := hv.1;omega
 have Tb : (n : Int) ≤ (cap : Int) := by omega
 have aaY : (0 : Int) ≤ (n : Int) := by omega
 obtain ⟨R, hR⟩ : ∃ R, R = dI T C B ws := ⟨_, rfl⟩;rw [← hR];have HR := aa hR;obtain ⟨Q, hQ⟩ : ∃ Q : Ending → World → Prop, Q = xt R n w := ⟨_, rfl⟩;rw [← hQ];have HQ := aa hQ;clear hM hl hok hn hR hQ;go_enter Tryz.func7, Tryz.ntmps7;go_wp2_with (first
  | (go_at_call 18; refine rB (cZ T C B _ hv (hs.below ae)) ?_; intro w1 hb1 ar aA hs1; (try simp at hs1); have hz1 := zL w.heap.size w1; have hq1 := zL 0 w1; have hv1 := zL b w1)
  | (go_at_call 19; refine (fM T C B _ hv (hs.below ae)).mono ?_; rintro e w2 ⟨rfl, hb2⟩; rw [HN.out]; obtain ⟨aH, aL, hs2⟩ := bC hb2; (try simp at hs2); have hz2 := zL w.heap.size w2; have hq2 := zL 0 w2; have hv2 := zL b w2)
  | (go_at_call 20; refine (CQ b n cap ws _ (HM.out.grow ae) Hl.out hn0 hnm).mono ?_; rintro e w3 ⟨g, cp, rfl, Jf, hg, hcp, hcm, hb3⟩; obtain ⟨cN, cH, hs3⟩ := bC hb3; (try simp at hs3); have hz3 := zL w.heap.size w3; have hq3 := zL 0 w3; have hv3 := zL b w3)
  | (go_at_call 21; refine (H4 T C B _ hv (hs.below ae)).mono ?_; rintro e w4 ⟨A, Mc, rfl, hA, hAg, hb4⟩; obtain ⟨eB, fZ, hs4⟩ := bC hb4; (try simp at hs4); have iZ := zL w.heap.size w4; have hq4 := zL 0 w4; have hv4 := zL b w4))
 have e0 := cI w4 w.heap.size 0 T;have e1 := cI w4 w.heap.size 1 C;have e2 := cI w4 w.heap.size 2 B;have hB4 : Below w.heap.size w w4 := ae;have WV := aa (hs.below hB4);have vd := aa (HM.out.grow hB4);have Ea := aa (Jf.grow hb4);have hgl : g < w3.heap.size := Jf.2.2;have HA := aa hA;have HAg := aa hAg;have hgb : ¬ g = b := by omega
 have qh : ¬ g = w.heap.size := by omega
 have aeB : (n : Int) ≤ (cp : Int) := by omega
 clear ar aH cN eB aA aL cH fZ hb1 hb2 hb3 hb4 hA hAg Jf
 go_loopw [28] (fun i wr => ∃ k : Nat, i = .int .i64 k ∧ k ≤ (aY T C B).length ∧ Mem g (((aY T C B).take k).foldl (mg T C B ws) ws) wr ∧ bB g w4.heap.size w4 wr) (fun i _ => (aY T C B).length - (intOf i).toNat)
 case atStart => exact ⟨0, rfl, by omega, by simpa using Ea.out, uZ⟩
 case round =>
  obtain ⟨k, rfl, hk, hG, hB⟩ := hrel;have hsz := hB.size;have f0 := cU hB e0 iZ (by show w.heap.size ≠ g; omega);have f1 := cU hB e1 iZ (by show w.heap.size ≠ g; omega);have f2 := cU hB e2 iZ (by show w.heap.size ≠ g; omega);have jm := aa (WV.out.below' (B := min g w4.heap.size) oM (hB.below oM oM));have Gi := aa (vd.out.but hB oM oM);have P4 := aa (HA.out.but hB (fun b off e => by have := HAg.out b off e; omega));have HG := aa hG;clear hG;by_cases hlt : k < (aY T C B).length
  ·obtain ⟨a, ha⟩ : ∃ a, (aY T C B)[k]? = some a := ⟨_, List.getElem?_eq_getElem hlt⟩;have OA := pI (List.mem_of_getElem? ha);have hin := ua hv OA;rw [HN.out] at hin;obtain ⟨p, rfl⟩ : ∃ p : Nat, a = (p : Int) := ⟨a.toNat, by omega⟩;obtain ⟨E9, -, hp1⟩ := hin;have S3 : p < n := by omega
   obtain ⟨bA, off, rfl, TM, hcA⟩ := xJ P4.out hlt ha;have hst := dL (mg T C B ws) ws (aY T C B) ha;unfold mg at hst;rw [Int.toNat_natCast] at hst;obtain ⟨y, hy⟩ : ∃ y, y = aj T C B ws p := ⟨_, rfl⟩;rw [← hy] at hst;obtain ⟨x, hx⟩ : ∃ x, ws[p]? = some x := ⟨_, List.getElem?_eq_getElem (by rw [Hl.out]; omega)⟩;have i6 := fun (W : World) (hs' : ai W) (yv : Mem b ws W) => mz T C B b n cap p x _ _ ws W hv hs' yv Hl.out hnm hcap pd.out (by rw [HN.out]; omega) OA hx rfl;rw [← hy] at i6;have vT := aa i6;obtain ⟨o, ho⟩ : ∃ o, o = ((aY T C B).take k).foldl (mg T C B ws) ws := ⟨_, rfl⟩;have pj : Hid (Mem g o wr) := by rw [ho]; exact HG
   have hol : o.length = n := by rw [ho, kE, Hl.out]
   have fV : Hid (((aY T C B).take (k + 1)).foldl (mg T C B ws) ws = o.set p y) := by rw [ho]; exact hst
   obtain ⟨z, hz⟩ : ∃ z, o[p]? = some z := ⟨_, List.getElem?_eq_getElem oM⟩;have Hz := aa hz;have Db := aa hol;have hki : (0 : Int) ≤ (k : Int) := by omega
   have hkj : (k : Int) < ((aY T C B).length : Int) := by omega
   have rO := zL w.heap.size wr;clear hst hy i6 ho hz hx ha OA HG hol;go_wp2_with fail
   go_region_held3 (fun w' => w'.cell? ⟨w.heap.size, 0, none⟩ = some (.int .i64 T) ∧ w'.cell? ⟨w.heap.size, 1, none⟩ = some (.int .i64 C) ∧ w'.cell? ⟨w.heap.size, 2, none⟩ = some (.int .i64 B))
    (first | exact ⟨f0, f1, f2⟩ | go_keep)
    (first
     | (go_at_call 19; refine (fM T C B _ hv (jm.out.below ae)).mono ?_; rintro e' w5 ⟨rfl, bU⟩; rw [HN.out]; have hb5 : Below _ _ w5 := jM; clear bU; obtain ⟨bX, cw, hs5⟩ := bC hb5; (try simp at hs5); have lF := zL w.heap.size w5)
     | (go_at_call 22; refine (vT.out _ (jm.out.below ae) (Gi.out.grow ae)).mono ?_; rintro e' w6 ⟨rfl, fe⟩; have hb6 : Below _ _ w6 := (by first | with_reducible exact dx fe | exact fe); clear fe; obtain ⟨iR, iQ, hs6⟩ := bC hb6; (try simp at hs6); have zX := zL w.heap.size w6; have Kr : Mem g o w6 := pj.out.grow ae; have s0 := Kr.w0 Hz.out; have s1 := Kr.w1 Hz.out; have s2 := Kr.w2 Hz.out; have sf := Kr.2.1))
   all_goals go_wp2_with fail
   all_goals exact ⟨⟨k + 1, by go_num, by omega, by rw [fV.out]; exact Kr.set3 (by rw [Db.out]; omega) y, uZ⟩, by simp [intOf]; omega⟩
  ·obtain rfl : k = (aY T C B).length := by omega
   have Dd : Hid (Mem g (kr T C B ws) wr) := by have h := HG.out; rw [List.take_length] at h; exact h
   have rO := zL w.heap.size wr;have hBr : Below w.heap.size w wr := hB4.trans (hB.below oM oM);clear HG hk hlt P4;obtain ⟨wo, rfl⟩ : ∃ wo : World, wo = wr := ⟨_, rfl⟩;go_wp2_with (first
    | (go_at_call 23; refine (vo T C B _ hv (jm.out.below ae)).mono ?_; rintro e w5 ⟨A2, acU, rfl, hA2, Uk, hb5⟩; obtain ⟨bX, cw, hs5⟩ := bC hb5; (try simp at hs5); have lF := zL w.heap.size w5; have hv5 := zL b w5))
   have g0 := (bX _ 0 rO).trans f0;have g1 := (bX _ 1 rO).trans f1;have g2 := (bX _ 2 rO).trans f2;have rJ : Below w.heap.size w w5 := hBr.trans (hb5.mono oM);have PU := aa (jm.out.below hb5);have VF := aa (Gi.out.grow hb5);have Gj := aa (Dd.out.grow hb5);have HA2 := aa hA2;have VN := aa Uk;have hg4 := zL g wo;clear bX cw hb5 hA2 Uk Dd jm Gi f0 f1 f2 hB vd WV Ea HA HAg e0 e1 e2 hB4
   go_loopw [49] (fun i wq => ∃ k : Nat, i = .int .i64 k ∧ k ≤ (au T C B).length ∧ Mem g (((au T C B).take k).foldl (lD ws) (kr T C B ws)) wq ∧ bB g w5.heap.size w5 wq) (fun i _ => (au T C B).length - (intOf i).toNat)
   case atStart => exact ⟨0, rfl, by omega, by simpa using Gj.out, uZ⟩
   case round =>
    obtain ⟨k, rfl, hk, hG, hB⟩ := hrel;have hsz2 := hB.size;have f0 := cU hB g0 lF (by show w.heap.size ≠ g; omega);have f1 := cU hB g1 lF (by show w.heap.size ≠ g; omega);have f2 := cU hB g2 lF (by show w.heap.size ≠ g; omega);have jm := aa (PU.out.below' (B := min g w5.heap.size) oM (hB.below oM oM));have Gi := aa (VF.out.but hB oM oM);have P4 := aa (HA2.out.but hB (fun b off e => by have := VN.out b off e; omega));have HG := aa hG;have aav := zL w.heap.size wr;have SB := zL b wr;clear hG;by_cases hlt : k < (au T C B).length
    ·obtain ⟨a, ha⟩ : ∃ a, (au T C B)[k]? = some a := ⟨_, List.getElem?_eq_getElem hlt⟩;have hin := lW hv (List.mem_of_getElem? ha);rw [HN.out] at hin;obtain ⟨p, rfl⟩ : ∃ p : Nat, a = (p : Int) := ⟨a.toNat, by omega⟩;obtain ⟨E9, hp1⟩ := hin;have S3 : p < n := (by omega);obtain ⟨bA, off, rfl, TM, hcA⟩ := xJ P4.out hlt ha;have hst := dL (lD ws) (kr T C B ws) (au T C B) ha;unfold lD at hst;rw [Int.toNat_natCast] at hst;obtain ⟨x, hx⟩ : ∃ x, ws[p]? = some x := ⟨_, List.getElem?_eq_getElem (by rw [Hl.out]; omega)⟩;have hx0 : ws.getD p z3 = x := (by rw [List.getD_eq_getElem?_getD, hx]; rfl);rw [hx0] at hst;have Iy := pd.out x (List.mem_of_getElem? hx);obtain ⟨-, -, hx2, hx3, -, -⟩ := Iy;obtain ⟨o, ho⟩ : ∃ o, o = ((au T C B).take k).foldl (lD ws) (kr T C B ws) := ⟨_, rfl⟩;have pj : Hid (Mem g o wr) := (by rw [ho]; exact HG);have hol : o.length = n := (by rw [ho, nj, kr, kE, Hl.out]);have fV : Hid (((au T C B).take (k + 1)).foldl (lD ws) (kr T C B ws) = if bD x = true then o.set p (ei x) else o) := (by rw [ho]; exact hst);obtain ⟨z, hz⟩ : ∃ z, o[p]? = some z := ⟨_, List.getElem?_eq_getElem oM⟩;have Hz := aa hz;have Db := aa hol;have hki : (0 : Int) ≤ (k : Int) := (by omega);have hkj : (k : Int) < ((au T C B).length : Int) := (by omega);have x0 := Gi.out.w0 hx;have x1 := Gi.out.w1 hx;have x2 := Gi.out.w2 hx;clear hst ho hz hx hx0 ha HG hol;cases hq : bD x with
     | true =>
      go_wp2_with (first
       | (go_at_call 24; refine (iD x _).mono ?_; rintro e' w6 ⟨rfl, hb6⟩; rw [hq]; obtain ⟨iR, iQ, hs6⟩ := bC hb6; (try simp at hs6); have zX := zL w.heap.size w6; have hv6 := zL b w6)
       | (go_at_call 25; refine (uJ x _ hx2 hx3).mono ?_; rintro e' w7 ⟨rfl, ed⟩; obtain ⟨qQ, qO, hs7⟩ := bC ed; (try simp at hs7); have DL : Mem g o w7 := (pj.out.grow hb6).grow ed; have s0 := DL.w0 Hz.out; have s1 := DL.w1 Hz.out; have s2 := DL.w2 Hz.out; have sf := DL.2.1))
      exact ⟨⟨k + 1, by go_num, by omega, by rw [fV.out, hq, if_pos rfl]; exact DL.set3 (by rw [Db.out]; omega) (ei x), uZ⟩, by simp [intOf]; omega⟩
     | false =>
      go_wp2_with (first
       | (go_at_call 24; refine (iD x _).mono ?_; rintro e' w6 ⟨rfl, hb6⟩; rw [hq]; obtain ⟨iR, iQ, hs6⟩ := bC hb6; (try simp at hs6); have zX := zL w.heap.size w6; have hv6 := zL b w6))
      exact ⟨⟨k + 1, by go_num, by omega, by rw [fV.out, hq, if_neg sM]; exact pj.out.grow hb6, uZ⟩, by simp [intOf]; omega⟩
    ·obtain rfl : k = (au T C B).length := (by omega);have Dd : Hid (Mem g (lC T C B ws) wr) := (by have h := HG.out; rw [List.take_length] at h; exact h);have LX : Below w.heap.size w wr := rJ.trans (hB.below oM oM);clear HG hk hlt P4;obtain ⟨wo2, rfl⟩ : ∃ wo : World, wo = wr := ⟨_, rfl⟩;go_wp2_with (first
      | (go_at_call 26; refine (G6 T C B _ hv (jm.out.below ae)).mono ?_; rintro e w8 ⟨A3, acT, rfl, hA3, Uj, DJ⟩; obtain ⟨I8, IY, Wi⟩ := bC DJ; (try simp at Wi); have N8 := zL w.heap.size w8; have hv8 := zL b w8))
     have LZ : Below w.heap.size w w8 := LX.trans (DJ.mono oM);have HG8 := aa (Dd.out.grow DJ);have P5 := aa hA3;have acH := aa Uj;have Gc := zL g wo2;clear I8 IY DJ hA3 Uj Dd jm Gi f0 f1 f2 hB VF PU Gj HA2 VN g0 g1 g2 rJ hBr LX
     go_loopw [70] (fun i wq => ∃ k : Nat, i = .int .i64 k ∧ k ≤ (bu T C B).length ∧ Mem g (((bu T C B).take k).foldl pG (lC T C B ws)) wq ∧ bB g w8.heap.size w8 wq) (fun i _ => (bu T C B).length - (intOf i).toNat)
     case atStart => exact ⟨0, rfl, by omega, by simpa using HG8.out, uZ⟩
     case round =>
      obtain ⟨k, rfl, hk, hG, hB⟩ := hrel;have yg := hB.size;have P4 := aa (P5.out.but hB (fun b off e => by have := acH.out b off e; omega));have HG := aa hG;clear hG;by_cases hlt : k < (bu T C B).length
      ·obtain ⟨a, ha⟩ : ∃ a, (bu T C B)[k]? = some a := ⟨_, List.getElem?_eq_getElem hlt⟩;have hin := tQ hv (List.mem_of_getElem? ha);rw [HN.out] at hin;obtain ⟨p, rfl⟩ : ∃ p : Nat, a = (p : Int) := ⟨a.toNat, by omega⟩;obtain ⟨E9, hp1⟩ := hin;have S3 : p < n := (by omega);obtain ⟨bA, off, rfl, TM, hcA⟩ := xJ P4.out hlt ha;have hst := dL pG (lC T C B ws) (bu T C B) ha;unfold pG at hst;rw [Int.toNat_natCast] at hst;obtain ⟨o, ho⟩ : ∃ o, o = ((bu T C B).take k).foldl pG (lC T C B ws) := ⟨_, rfl⟩;have pj : Hid (Mem g o wr) := (by rw [ho]; exact HG);have hol : o.length = n := (by rw [ho, qU, lC, nj, kr, kE, Hl.out]);have fV : Hid (((bu T C B).take (k + 1)).foldl pG (lC T C B ws) = o.set p z3) := (by rw [ho]; exact hst);obtain ⟨z, hz⟩ : ∃ z, o[p]? = some z := ⟨_, List.getElem?_eq_getElem oM⟩;have Db := aa hol;have hki : (0 : Int) ≤ (k : Int) := (by omega);have hkj : (k : Int) < ((bu T C B).length : Int) := (by omega);have s0 := pj.out.w0 hz;have s1 := pj.out.w1 hz;have s2 := pj.out.w2 hz;have sf := pj.out.2.1;clear hst ho hz ha HG hol;go_wp2_with fail;exact ⟨⟨k + 1, by go_num, by omega, by rw [fV.out]; exact pj.out.set3 (by rw [Db.out]; omega) z3, uZ⟩, by simp [intOf]; omega⟩
      ·obtain rfl : k = (bu T C B).length := (by omega);have Dd : Hid (Mem g R wr) := (by have h := HG.out; rw [List.take_length] at h; rw [HR.out]; exact h);have aby : Below w.heap.size w wr := LZ.trans (hB.below oM oM);go_wp2_with fail;rw [HQ.out];exact ⟨g, cp, rfl, Dd.out, by omega, hcp, hcm, aby⟩
end Go.Proofs.YtapjfhbonfehpaaGreatDoor
