/- Package layout: First. -/
import Derived.Test.YtapjfhbonfehpaaGreatDoorV22
set_option linter.unusedSimpArgs false
set_option linter.unusedVariables false
set_option maxRecDepth 100000
set_option maxHeartbeats 40000000
namespace Go.Proofs.YtapjfhbonfehpaaGreatDoor
open Go.RowKit
theorem wQ (n : Nat) : (madeCells (Value.agg #[.int .i64 0, .int .u32 0, .int .u32 0]).cells (n * 3)).toList = (List.replicate n z3).flatMap ig := by
 apply List.ext_getElem
 ·rw [kF, List.length_replicate];simp [size_madeCells]
 ·intro j h1 h2;rw [kF, List.length_replicate] at h2;have hz : (List.replicate n z3)[j / 3]? = some z3 := by rw [List.getElem?_replicate]; simp; omega
  have hf := np (List.replicate n z3) hz (j % 3) oM;rw [show j / 3 * 3 + j % 3 = j by omega] at hf;have e : ((List.replicate n z3).flatMap ig)[j]? = some (((List.replicate n z3).flatMap ig)[j]'(by rw [kF, List.length_replicate]; exact h2)) := List.getElem?_eq_getElem _;rw [hf] at e;have hm : j % 3 = 0 ∨ j % 3 = 1 ∨ j % 3 = 2 := by omega
  have hl : (madeCells (Value.agg #[.int .i64 0, .int .u32 0, .int .u32 0]).cells (n * 3)).toList[j]'h1 = #[Value.int .i64 0, .int .u32 0, .int .u32 0][j % 3]! := by
   simp [madeCells, Value.cells]
  rw [hl];rcases hm with hm | hm | hm
  ·rw [hm] at e ⊢; injection e
  ·rw [hm] at e ⊢; injection e
  ·rw [hm] at e ⊢; injection e
def setV (v : Int) (o : List W3) (a : Int) : List W3 := o.set a.toNat ⟨v, (o.getD a.toNat z3).r, (o.getD a.toNat z3).f⟩
theorem jv (v : Int) (o : List W3) (a : Int) : (setV v o a).length = o.length := by unfold setV; rw [List.length_set]
theorem xE {o : List W3} {p : Nat} {z : W3} (hz : o[p]? = some z) (v : Int) : setV v o (p : Int) = o.set p ⟨v, z.r, z.f⟩ := by
 unfold setV;rw [Int.toNat_natCast, List.getD_eq_getElem?_getD, hz];rfl
theorem jq (v : Int) : ∀ (l : List Int) (o : List W3), (l.foldl (setV v) o).length = o.length
 | [], _ => rfl
 | a :: l, o => by rw [List.foldl_cons, jq v l, jv]
def yB (T C B : Int) : List W3 := setV 1 (List.replicate (ah T C B 7).toNat z3) 1
def yA (T C B : Int) : List W3 := (cO T C B T.toNat).foldl (setV 2) (yB T C B)
def iz (T C B : Int) : List W3 := (bV T C B B.toNat).foldl (setV 2) (yA T C B)
theorem CH (T C B : Int) : (iz T C B).length = (ah T C B 7).toNat := by
 unfold iz yA yB;rw [jq, jq, jv, List.length_replicate]
theorem BC (T C B : Int) {k n : Nat} (h : k < n) : (cO T C B n)[k]? = some (fG T C B 4 (k : Nat) 0) := by unfold cO; simp [h]
theorem AP (T C B : Int) {k n : Nat} (h : k < n) : (bV T C B n)[k]? = some (fG T C B 6 (k : Nat) 0) := by unfold bV; simp [h]
def F6 (ws : List W3) (n : Nat) (w : World) (e : Ending) (w' : World) : Prop := ∃ g : Nat, e = .returned (.slice (some ⟨g, 0, none⟩) n n) ∧ Mem g ws w' ∧ w.heap.size ≤ g ∧ Below w.heap.size w w'
theorem uG (T C B : Int) (n : Nat) (w : World) (hv : aC T C B) (hs : ai w) (hn : ah T C B 7 = (n : Int)) (hn8 : 8 ≤ n) :
  Calls Tryz.prog 10 #[(.agg #[.int .i64 T, .int .i64 C, .int .i64 B])] w (F6 (iz T C B) n w) := by
 have hp := hs.pos;have hn4 : n ≤ 4096 := by have := hv.2; omega
 obtain ⟨f1, f2, -, -, f5, f6⟩ := hv.1;obtain ⟨M, rfl⟩ : ∃ M : Nat, T = (M : Int) := ⟨T.toNat, by omega⟩;obtain ⟨K, rfl⟩ : ∃ K : Nat, B = (K : Int) := ⟨B.toNat, by omega⟩;obtain ⟨R, hR⟩ : ∃ R, R = iz M C K := ⟨_, rfl⟩;have h2 : R = (bV M C K K).foldl (setV 2) ((cO M C K M).foldl (setV 2) (setV 1 (List.replicate n z3) 1)) := by
  rw [hR];unfold iz yA yB;rw [hn];rfl
 rw [← hR];have HR := aa h2;have HN := aa hn;obtain ⟨i0, hi, fF, fw, fD⟩ := info_parts jp;clear hR h2 hn;go_enter Tryz.func10, Tryz.ntmps10;go_wp2_with (first
  | (go_at_call 32; refine rB (bp M C K _ hv (hs.below ae)) ?_; intro w1 hb1 ar aA hs1; (try simp at hs1); have hz1 := zL w.heap.size w1; have hq1 := zL 0 w1)
  | (go_at_call 19; refine (fM M C K _ hv (hs.below ae)).mono ?_; rintro e w2 ⟨rfl, hb2⟩; rw [HN.out]; obtain ⟨aH, aL, hs2⟩ := bC hb2; (try simp at hs2); have hz2 := zL w.heap.size w2; have hq2 := zL 0 w2)
  | (at_make; refine wpList_make_full _ rfl _ _ 25 rfl w2.heap.size 56 i0 _ 3 Tryz.underlying25 hi fF fw _ _ _ _ n rfl rfl rfl rfl (by rw [fD]; omega) (by unfold maxLen; omega) sM ?_; intro w3 uk IV; rw [wQ] at uk; obtain ⟨Je, hg3, -⟩ := Mem.of_own uk oM; have hb3 : Below w2.heap.size w2 w3 := (Below.refl _ _).grown IV (Nat.le_refl _) (fun _ h => by cases h); obtain ⟨cN, cH, hs3⟩ := bC hb3; have hz3 := zL w.heap.size w3; have MD := aa Je; clear Je uk IV)
  | (go_at_call 33; refine rB (Pp M C K _ hv (hs.below ae)) ?_; intro w4 hb4 eB fZ hs4; (try simp at hs4); have iZ := zL w.heap.size w4; have Kq := MD.out.grow hb4; have yc : (List.replicate n z3)[1]? = some z3 := (by rw [List.getElem?_replicate]; simp; omega); have s0 := Kq.w0 yc; have s1 := Kq.w1 yc; have s2 := Kq.w2 yc; have sf := Kq.2.1; have hn1 : (1 : Int) < (n : Int) := oM; have ael : 1 < n := oM; have UW := aa yc; clear yc))
 have e0 := cI w4 w.heap.size 0 M;have e1 := cI w4 w.heap.size 1 C;have e2 := cI w4 w.heap.size 2 K;have hB4 : Below w.heap.size w w4 := ae;have Ea : Hid (Mem w2.heap.size (setV 1 (List.replicate n z3) 1) (w4.setCell ⟨w2.heap.size, 3, none⟩ (.int .i64 1))) := aa (by
  have h := Kq.setV UW.out 1;have e : setV 1 (List.replicate n z3) 1 = (List.replicate n z3).set 1 ⟨1, z3.r, z3.f⟩ := by
   unfold setV;rw [show (1 : Int).toNat = 1 from rfl, List.getD_eq_getElem?_getD, UW.out];rfl
  rw [e];exact h)
 obtain ⟨w5, gy⟩ : ∃ w5 : World, w5 = w4.setCell ⟨w2.heap.size, 3, none⟩ (.int .i64 1) := ⟨_, rfl⟩;have qh : ¬ w2.heap.size = w.heap.size := by omega
 have g0 := cJ gy w.heap.size 0 M;have g1 := cJ gy w.heap.size 1 C;have g2 := cJ gy w.heap.size 2 K;have rJ : Below w.heap.size w w5 := by rw [gy]; exact hB4.setCell (by simp; omega) _
 have lF : w.heap.size < w5.heap.size := by rw [gy]; simpa using iZ
 have hG5 : w2.heap.size < w5.heap.size := by rw [gy]; have := Kq.2.2; simpa using this
 rw [← gy] at Ea ⊢;have PU := aa (hs.below rJ);obtain ⟨G, hG⟩ : ∃ G, G = w2.heap.size := ⟨_, rfl⟩;rw [← hG] at Ea hG5 qh ⊢;have Qw : w.heap.size < G := by omega
 clear hG;obtain ⟨O1, LU⟩ : ∃ O, O = setV 1 (List.replicate n z3) 1 := ⟨_, rfl⟩;have Jd : O1.length = n := by rw [LU, jv, List.length_replicate]
 rw [← LU] at Ea HR;have PW := aa Jd;clear gy e0 e1 e2 hB4 ar aA hb1 aH aL hb2 cN cH hb3 eB fZ hb4 Kq s0 s1 s2 sf LU Jd
 go_loopw [4] (fun i wr => ∃ k : Nat, i = .int .i64 ((k : Int) + 1) ∧ k ≤ M ∧ Mem G (((cO M C K M).take k).foldl (setV 2) O1) wr ∧ bB G w5.heap.size w5 wr) (fun i _ => M + 1 - (intOf i).toNat)
 case atStart => exact ⟨0, by go_num, by omega, by simpa using Ea.out, uZ⟩
 case round =>
  obtain ⟨k, rfl, hk, hM, hB⟩ := hrel;have hsz := hB.size;have f0 := cU hB g0 lF (by show w.heap.size ≠ G; omega);have f1 := cU hB g1 lF (by show w.heap.size ≠ G; omega);have f2 := cU hB g2 lF (by show w.heap.size ≠ G; omega);have jm := aa (PU.out.below' (B := min G w5.heap.size) oM (hB.below oM oM));have HG := aa hM;have hBr : Below w.heap.size w wr := rJ.trans (hB.below oM oM);have rO := zL w.heap.size wr;clear hM;by_cases hlt : k < M
  ·have hle : (k : Int) + 1 ≤ (M : Int) := by omega
   have ha := BC M C K hlt;have hin := jI M C K hv 4 dM (k : Nat) 0 oM (by show ((k : Nat) : Int) < (M : Int); omega) dM dM;rw [HN.out] at hin;have hsl := fun W hs' => pq M C K ((k : Int) + 1) W hv hs' oM oM;rw [show (k : Int) + 1 - 1 = (k : Nat) by omega] at hsl;obtain ⟨p, Bi⟩ : ∃ p : Nat, fG M C K 4 (k : Nat) 0 = (p : Int) := ⟨(fG M C K 4 (k : Nat) 0).toNat, by omega⟩;rw [Bi] at hsl hin ha;obtain ⟨Tm, hin1⟩ := hin;obtain ⟨o, ho⟩ : ∃ o, o = ((cO M C K M).take k).foldl (setV 2) O1 := ⟨_, rfl⟩;have hst := dL (setV 2) O1 (cO M C K M) ha;rw [← ho] at hst;have hol : o.length = n := by rw [ho, jq, PW.out]
   obtain ⟨z, hz⟩ : ∃ z, o[p]? = some z := ⟨_, List.getElem?_eq_getElem oM⟩;rw [xE hz] at hst;have pj : Hid (Mem G o wr) := by rw [ho]; exact HG
   have fV := aa hst;have Hz := aa hz;have Mw := aa hsl;have Na := pj.out.2.2;have s0 := pj.out.w0 hz;have s1 := pj.out.w1 hz;have s2 := pj.out.w2 hz;have sf := pj.out.2.1;clear hst hz hsl ho hol ha HG;go_wp2_with (first
    | (go_at_call 34; refine (Mw.out _ (jm.out.below ae)).mono ?_; rintro e' w6 ⟨rfl, hb6⟩; obtain ⟨iR, iQ, hs6⟩ := bC hb6; (try simp at hs6); have Kr := pj.out.grow hb6))
   exact ⟨⟨k + 1, by go_num, by omega, by rw [fV.out]; exact Kr.setV Hz.out 2, uZ⟩, by simp [intOf]; omega⟩
  ·obtain rfl : M = k := by omega
   obtain ⟨O2, hO2⟩ : ∃ O, O = (cO M C K M).foldl (setV 2) O1 := ⟨_, rfl⟩;have Jc : O2.length = n := by rw [hO2, jq, PW.out]
   have Gj : Hid (Mem G O2 wr) := by
    have h := HG.out;rw [List.take_of_length_le (by rw [jO]; exact Nat.le_refl _)] at h;rw [hO2];exact h
   have MB : Hid (R = (bV M C K K).foldl (setV 2) O2) := by rw [hO2]; exact HR.out
   have VC := aa Jc;clear hO2 Jc HG HR PW hlt hk;obtain ⟨wo, rfl⟩ : ∃ wo : World, wo = wr := ⟨_, rfl⟩;go_wp2_with fail;have hGo : G < wo.heap.size := Gj.out.2.2
   go_loopw [31] (fun i wr => ∃ k : Nat, i = .int .i64 k ∧ k ≤ K ∧ Mem G (((bV M C K K).take k).foldl (setV 2) O2) wr ∧ bB G wo.heap.size wo wr) (fun i _ => K - (intOf i).toNat)
   case atStart => exact ⟨0, by go_num, by omega, by simpa using Gj.out, uZ⟩
   case round =>
    obtain ⟨k, rfl, hk, hM, Qx⟩ := hrel;have hsz' := Qx.size;have f0' := cU Qx f0 rO (by show w.heap.size ≠ G; omega);have f1' := cU Qx f1 rO (by show w.heap.size ≠ G; omega);have f2' := cU Qx f2 rO (by show w.heap.size ≠ G; omega);have acv := aa (jm.out.below' (B := min G wo.heap.size) oM (Qx.below oM oM));have HG := aa hM;have LX : Below w.heap.size w wr := hBr.trans (Qx.below oM oM);have aav := zL w.heap.size wr;clear hM f0 f1 f2;by_cases hlt : k < K
    ·have ha := AP M C K hlt;have hin := jI M C K hv 6 dM (k : Nat) 0 oM (by show ((k : Nat) : Int) < (K : Int); omega) dM dM;rw [HN.out] at hin;have hsl := fun W hs' => uO M C K (k : Int) W hv hs';obtain ⟨p, Bi⟩ : ∃ p : Nat, fG M C K 6 (k : Nat) 0 = (p : Int) := ⟨(fG M C K 6 (k : Nat) 0).toNat, by omega⟩;rw [Bi] at hsl hin ha;obtain ⟨Tm, hin1⟩ := hin;obtain ⟨o, ho⟩ : ∃ o, o = ((bV M C K K).take k).foldl (setV 2) O2 := ⟨_, rfl⟩;have hst := dL (setV 2) O2 (bV M C K K) ha;rw [← ho] at hst;have hol : o.length = n := (by rw [ho, jq, VC.out]);obtain ⟨z, hz⟩ : ∃ z, o[p]? = some z := ⟨_, List.getElem?_eq_getElem oM⟩;rw [xE hz] at hst;have pj : Hid (Mem G o wr) := (by rw [ho]; exact HG);have fV := aa hst;have Hz := aa hz;have Mw := aa hsl;have Na := pj.out.2.2;have s0 := pj.out.w0 hz;have s1 := pj.out.w1 hz;have s2 := pj.out.w2 hz;have sf := pj.out.2.1;clear hst hz hsl ho hol ha HG;go_wp2_with (first
      | (go_at_call 35; refine (Mw.out _ (acv.out.below ae)).mono ?_; rintro e' w6 ⟨rfl, hb6⟩; obtain ⟨iR, iQ, hs6⟩ := bC hb6; (try simp at hs6); have Kr := pj.out.grow hb6))
     exact ⟨⟨k + 1, by go_num, by omega, by rw [fV.out]; exact Kr.setV Hz.out 2, uZ⟩, by simp [intOf]; omega⟩
    ·obtain rfl : K = k := (by omega);have Nz : Hid (Mem G R wr) := by
      have h := HG.out;rw [List.take_of_length_le (by rw [ji]; exact Nat.le_refl _)] at h;rw [MB.out];exact h
     go_wp2_with fail;go_ret;exact ⟨G, rfl, Nz.out, by omega, LX⟩
theorem pF (w : World) : Calls Tryz.prog 4 #[] w (cd (.agg #[.int .i64 3, .int .i64 8, .int .i64 2]) w) := by
 go_enter Tryz.func4, Tryz.ntmps4;go_wp2_with fail;exact bodyPost_ret (v := .agg #[.int .i64 3, .int .i64 8, .int .i64 2]) (by simp [results, Tryz.results4, go_sem]) rfl ⟨rfl, ae⟩
def ia : List Int := [1, 2, 3, 9, 10]
theorem oH (w : World) : Calls Tryz.prog 11 #[] w fun e w' => ∃ g : Nat, e = .returned (.slice (some ⟨g, 0, none⟩) 5 5) ∧ (∀ k : Nat, k < 5 → w'.cell? ⟨g, k, none⟩ = some (.int .i64 (ia.getD k 0))) ∧ w.heap.size ≤ g ∧ g < w'.heap.size ∧ Below w.heap.size w w' := by
 go_enter Tryz.func11, Tryz.ntmps11;go_wp2_with fail;go_ret;refine ⟨w.heap.size, rfl, fun k hk => ?_, Nat.le_refl _, by simp, ae⟩
 match k, hk with
 | 0, _ => go_simp; rfl
 | 1, _ => go_simp; rfl
 | 2, _ => go_simp; rfl
 | 3, _ => go_simp; rfl
 | 4, _ => go_simp; rfl
theorem cX : aC 3 8 2 := ⟨⟨by decide, by decide, by decide, by decide, by decide, by decide⟩, by decide⟩
theorem ib : ah 3 8 2 7 = ((448 : Nat) : Int) := by decide
structure Sl where
 st : Int
 sq : Int
 at_ : List Int
 old : List W3
 nw : List Int
 wr : Bool
structure Ce where
 v : Int
 ver : Int
 who : Int
 sq : Int
def jH (s : Sl) (k : Nat) (n : Int) : En := ⟨fG 3 8 2 3 n 0, ⟨(s.old.getD k z3).v, (s.old.getD k z3).r % 9, 0⟩, if s.wr = true then s.nw.getD k 0 else (s.old.getD k z3).v, s.wr⟩
def pW (s : Sl) (acc : Int × List En) (k : Nat) : Int × List En :=
 if acc.1 < s.at_.getD k 0 % 8 ∧ k < s.old.length ∧ k < s.nw.length ∧ k < 4 then (s.at_.getD k 0 % 8, acc.2 ++ [jH s k (s.at_.getD k 0 % 8)]) else acc
def cy (s : Sl) (k : Nat) : Int × List En := (List.range k).foldl (pW s) (-1, [])
theorem mH (s : Sl) (k : Nat) : cy s (k + 1) = pW s (cy s k) k := by unfold cy; rw [List.range_succ, List.foldl_append]; rfl
def ju (i : Nat) : Int := ia.getD i 0
def mf (p : Nat) (ws : List W3) (o : List W3) (k : Nat) : List W3 := (List.range k).foldl (fun o j => o.set (p + j) (ws.getD j z3)) o
theorem mb (p : Nat) (ws o : List W3) (k : Nat) : mf p ws o (k + 1) = (mf p ws o k).set (p + k) (ws.getD k z3) := by unfold mf; rw [List.range_succ, List.foldl_append]; rfl
theorem tM (p : Nat) (ws o : List W3) (k : Nat) : (mf p ws o k).length = o.length := by
 induction k with
 | zero => rfl
 | succ k ih => rw [mb, List.length_set, ih]
def GF (i : Nat) (s : Sl) : Bool := decide (eu 3 8 2 (ju i) (s.sq % 9 + 1) (s.st % 4) (cy s s.at_.length).2 = 0)
def mV (s : Sl) : List W3 := jg (s.sq % 9 + 1) (s.st % 4) (cy s s.at_.length).2
def qx (l : List Sl) (o : List W3) (i : Nat) : List W3 :=
 match l[i]? with
 | none => o
 | some s => if GF i s = true then mf (aF 3 8 2 (ju i)).toNat (mV s) o (mV s).length else o
def gV (l : List Sl) (o : List W3) (k : Nat) : List W3 := (List.range k).foldl (qx l) o
theorem jY (l : List Sl) (o : List W3) (k : Nat) : gV l o (k + 1) = qx l (gV l o k) k := by unfold gV; rw [List.range_succ, List.foldl_append]; rfl
theorem BG (l : List Sl) (o : List W3) (i : Nat) : (qx l o i).length = o.length := by
 unfold qx;split
 ·rfl
 ·split
  ·exact tM _ _ _ _
  ·rfl
theorem kM (l : List Sl) (o : List W3) (k : Nat) : (gV l o k).length = o.length := by
 induction k with
 | zero => rfl
 | succ k ih => rw [jY, BG, ih]
def vw (c : Ce) : Int := if c.who % 6 = 0 then 0 else ju ((c.who % 6).toNat - 1) * 16777216 + (c.sq % 9 + 1)
def qY (c : Ce) : W3 := ⟨c.v, c.ver % 9, vw c⟩
def kg (l : List Ce) (o : List W3) (k : Nat) : List W3 := (List.range k).foldl (fun o i => match l[i]? with | none => o | some c => o.set (fG 3 8 2 3 (i : Nat) 0).toNat (qY c)) o
def om (r : Int × Int × Int) (i : Nat) (o : List W3) : List W3 := setV r.2.2 (setV r.2.1 (setV r.1 o (fG 3 8 2 2 (i : Nat) 0)) (fG 3 8 2 2 (i : Nat) 0 + 1)) (fG 3 8 2 2 (i : Nat) 0 + 2)
def iE (l : List (Int × Int × Int)) (o : List W3) (k : Nat) : List W3 := (List.range k).foldl (fun o i => match l[i]? with | none => o | some r => om r i o) o
def iF (l : List W3) (ats : List Int) (o : List W3) (k : Nat) : List W3 := (List.range k).foldl (fun o i => match l[i]? with | none => o | some y => match ats[i]? with | none => o | some a => o.set (a % 448).toNat y) o
def wP (sl : List Sl) (ce : List Ce) (re : List (Int × Int × Int)) (ov : List W3) (ats : List Int) : List W3 :=
 iF ov ats (iE re (kg ce (gV sl (iz 3 8 2) sl.length) ce.length) re.length) ov.length
theorem mJ (l : List Ce) (o : List W3) (k : Nat) : kg l o (k + 1) = match l[k]? with | none => kg l o k | some c => (kg l o k).set (fG 3 8 2 3 (k : Nat) 0).toNat (qY c) := by unfold kg; rw [List.range_succ, List.foldl_append]; rfl
theorem kP (l : List (Int × Int × Int)) (o : List W3) (k : Nat) : iE l o (k + 1) = match l[k]? with | none => iE l o k | some r => om r k (iE l o k) := by unfold iE; rw [List.range_succ, List.foldl_append]; rfl
theorem kQ (l : List W3) (ats : List Int) (o : List W3) (k : Nat) : iF l ats o (k + 1) = match l[k]? with | none => iF l ats o k | some y => match ats[k]? with | none => iF l ats o k | some a => (iF l ats o k).set (a % 448).toNat y := by unfold iF; rw [List.range_succ, List.foldl_append]; rfl
theorem oU (l : List Ce) (o : List W3) (k : Nat) : (kg l o k).length = o.length := by
 induction k with
 | zero => rfl
 | succ k ih => rw [mJ]; split <;> simp [ih]
theorem BN (r : Int × Int × Int) (i : Nat) (o : List W3) : (om r i o).length = o.length := by unfold om; rw [jv, jv, jv]
theorem l8 (l : List (Int × Int × Int)) (o : List W3) (k : Nat) : (iE l o k).length = o.length := by
 induction k with
 | zero => rfl
 | succ k ih => rw [kP]; split <;> simp [ih, BN]
theorem rD (l : List W3) (ats : List Int) (o : List W3) (k : Nat) : (iF l ats o k).length = o.length := by
 induction k with
 | zero => rfl
 | succ k ih => rw [kQ]; split <;> (try split) <;> simp [ih]
theorem kZ : (iz 3 8 2).length = 448 := by rw [CH, ib]; rfl
theorem EN (sl : List Sl) (ce : List Ce) (re : List (Int × Int × Int)) (ov : List W3) (ats : List Int) : (wP sl ce re ov ats).length = 448 := by
 unfold wP;rw [rD, l8, oU, kM, kZ]
def Mv (w : World) (B : Nat) (cs : List Value) (s : Sl) : Prop := ∃ (Aa : Option Addr) (ca : Nat) (Ao : Option Addr) (co : Nat) (An : Option Addr) (cn : Nat),
 cs = [.int .u8 s.st, .int .u16 s.sq, .slice Aa s.at_.length ca, .slice Ao s.old.length co, .slice An s.nw.length cn, .bool s.wr] ∧ Rd w B 1 Aa s.at_.length (s.at_.map (Value.int .u8)) ∧ Rd w B 3 Ao s.old.length (s.old.flatMap ig) ∧ Rd w B 1 An s.nw.length (s.nw.map (Value.int .i64))
def Sl.ok (s : Sl) : Prop := (0 ≤ s.st ∧ s.st < 256) ∧ (0 ≤ s.sq ∧ s.sq < 65536) ∧ (∀ a ∈ s.at_, 0 ≤ a ∧ a < 256) ∧ (∀ x ∈ s.old, x.ok) ∧ (∀ v ∈ s.nw, gw v) ∧ s.at_.length ≤ maxLen ∧ s.old.length ≤ maxLen ∧ s.nw.length ≤ maxLen
def AZ (w : World) (B : Nat) (A : Option Addr) (l : List Sl) : Prop := ∀ i s, l[i]? = some s → ∃ b off, A = some ⟨b, off, none⟩ ∧ b < B ∧ ∃ cs, Mv w B cs s ∧ ∀ j u, cs[j]? = some u → w.cell? ⟨b, off + i * 6 + j, none⟩ = some u
def cec (c : Ce) : List Value := [.int .i64 c.v, .int .u8 c.ver, .int .u8 c.who, .int .u16 c.sq]
def Ce.ok (c : Ce) : Prop := gw c.v ∧ (0 ≤ c.ver ∧ c.ver < 256) ∧ (0 ≤ c.who ∧ c.who < 256) ∧ (0 ≤ c.sq ∧ c.sq < 65536)
def NF (r : Int × Int × Int) : List Value := [.int .i64 r.1, .int .i64 r.2.1, .int .i64 r.2.2]
structure bO where
 As : Option Addr
 cs : Nat
 sl : List Sl
 Ac : Option Addr
 cc : Nat
 ce : List Ce
 Ar : Option Addr
 cr : Nat
 re : List (Int × Int × Int)
 Ao : Option Addr
 co : Nat
 ov : List W3
 Aa : Option Addr
 ca : Nat
 ats : List Int
def bO.val (m : bO) : Value := .agg #[.slice m.As m.sl.length m.cs, .slice m.Ac m.ce.length m.cc, .slice m.Ar m.re.length m.cr, .slice m.Ao m.ov.length m.co, .slice m.Aa m.ats.length m.ca]
def bO.In (m : bO) (w : World) (B : Nat) : Prop := AZ w B m.As m.sl ∧ Rd w B 4 m.Ac m.ce.length (m.ce.flatMap cec) ∧ Rd w B 3 m.Ar m.re.length (m.re.flatMap NF) ∧ Rd w B 3 m.Ao m.ov.length (m.ov.flatMap ig) ∧ Rd w B 1 m.Aa m.ats.length (m.ats.map (Value.int .u16))
def bO.ok (m : bO) : Prop := (∀ s ∈ m.sl, s.ok) ∧ (∀ c ∈ m.ce, c.ok) ∧ (∀ r ∈ m.re, gw r.1 ∧ gw r.2.1 ∧ gw r.2.2) ∧ (∀ x ∈ m.ov, x.ok) ∧ (∀ a ∈ m.ats, 0 ≤ a ∧ a < 65536) ∧ m.sl.length ≤ maxLen ∧ m.ce.length ≤ maxLen ∧ m.re.length ≤ maxLen ∧ m.ov.length ≤ maxLen ∧ m.ats.length ≤ maxLen
def bO.fits (m : bO) : Bool := decide (m.sl.length ≤ 5) && decide (m.ce.length ≤ 8) && decide (m.re.length ≤ 3) && decide (m.ov.length ≤ 10)
def bO.words (m : bO) : List W3 := wP m.sl m.ce m.re m.ov m.ats
theorem Mv.below {w w' : World} {B : Nat} {cs : List Value} {s : Sl} (h : Mv w B cs s) (hb : Below B w w') : Mv w' B cs s := by
 obtain ⟨Aa, ca, Ao, co, An, cn, e, h1, h2, h3⟩ := h;exact ⟨Aa, ca, Ao, co, An, cn, e, h1.below hb, h2.below hb, h3.below hb⟩
theorem AZ.below {w w' : World} {B : Nat} {A : Option Addr} {l : List Sl} (h : AZ w B A l) (hb : Below B w w') : AZ w' B A l := fun i s hs => by
 obtain ⟨b, off, e, hB, cs, hc, hj⟩ := h i s hs;exact ⟨b, off, e, hB, cs, hc.below hb, fun j u hu => (hb.cell (p := ⟨b, off + i * 6 + j, none⟩) hB).trans (hj j u hu)⟩
theorem bO.In.below {m : bO} {w w' : World} {B : Nat} (h : m.In w B) (hb : Below B w w') : m.In w' B := ⟨h.1.below hb, h.2.1.below hb, h.2.2.1.below hb, h.2.2.2.1.below hb, h.2.2.2.2.below hb⟩
theorem PF {p : Prop} (h : p := by
 clear hf';go_enter Tryz.func5, Tryz.ntmps5;go_wp2_with (first
  | (go_at_call 4; refine rB (pF _) ?_; intro w1 hb1 ar aA hs1; (try simp at hs1); have hz1 := zL w.heap.size w1)
  | (go_at_call 10; refine (uG 3 8 2 448 _ cX (hs.below ae) ib dM).mono ?_; rintro e w2 ⟨G, rfl, Ks, hg2, hb2⟩; (try simp at hg2); obtain ⟨aH, aL, hs2⟩ := bC hb2; (try simp at hs2); have hz2 := zL w.heap.size w2))
 go_ret2
 exact ⟨rfl, ae⟩) : p := h
theorem Le (m : bO) (w : World) (hs : ai w) (hf : m.fits = false) : Calls Tryz.prog 5 #[m.val] w (cd (.tuple #[.slice none 0 0, .bool false]) w) := by
 have hp := hs.pos;obtain ⟨As, cs, sl, Ac, cc, ce, Ar, cr, re, Ao, co, ov, Aa, ca, ats⟩ := m;unfold bO.fits at hf;simp only [] at hf;have hf' : 5 < sl.length ∨ 8 < ce.length ∨ 3 < re.length ∨ 10 < ov.length := by
  simp only [Bool.and_eq_false_iff, decide_eq_false_iff_not] at hf;omega
 clear hf;unfold bO.val;simp only [];by_cases a1 : 5 < sl.length
 ·exact PF
 by_cases a2 : 8 < ce.length
 ·exact PF
 by_cases a3 : 3 < re.length
 ·exact PF
 have a4 : 10 < ov.length := by omega
 clear hf';go_enter Tryz.func5, Tryz.ntmps5;go_wp2_with (first
  | (go_at_call 4; refine rB (pF _) ?_; intro w1 hb1 ar aA hs1; (try simp at hs1); have hz1 := zL w.heap.size w1)
  | (go_at_call 10; refine (uG 3 8 2 448 _ cX (hs.below ae) ib dM).mono ?_; rintro e w2 ⟨G, rfl, Ks, hg2, hb2⟩; (try simp at hg2); obtain ⟨aH, aL, hs2⟩ := bC hb2; (try simp at hs2); have hz2 := zL w.heap.size w2))
 go_ret2
 exact ⟨rfl, ae⟩
end Go.Proofs.YtapjfhbonfehpaaGreatDoor
