/- The example of chapter 56. -/
import Derived.Test.YtapjfhbonfehpaaGreatDoorV20
import Derived.Test.YtapjfhbonfehpaaGreatDoorV28
import Derived.WalkSpells
import Derived.WalkLawsBesides
import Derived.Test.YtapjfhbonfehpaaGreatDoorV23
import Derived.Test.YtapjfhbonfehpaaGreatDoorV25
set_option linter.unusedSimpArgs false
set_option linter.unusedVariables false
set_option maxRecDepth 100000
set_option maxHeartbeats 40000000
namespace Go.Proofs.YtapjfhbonfehpaaGreatDoor
open Go.RowKit
theorem pu {o : List W3} {v a : Int} (ho : ∀ x ∈ o, x.ok) (hv : gw v) : ∀ x ∈ setV v o a, x.ok := by
 unfold setV;have hx := kS ho a.toNat;exact od ho ⟨hv.1, hv.2, hx.2.2.1, hx.2.2.2.1, hx.2.2.2.2.1, hx.2.2.2.2.2⟩
theorem uD {v : Int} (hv : gw v) : ∀ (l : List Int) (o : List W3), (∀ x ∈ o, x.ok) → ∀ x ∈ l.foldl (setV v) o, x.ok
 | [], _, h => h
 | _ :: l, _, h => uD hv l _ (pu h hv)
theorem Fy (T C B : Int) : ∀ x ∈ iz T C B, x.ok := by
 unfold iz yA yB;refine uD ⟨by decide, by decide⟩ _ _ (uD ⟨by decide, by decide⟩ _ _ (pu (fun x hx => ?_) ⟨by decide, by decide⟩));rw [List.eq_of_mem_replicate hx];exact nE
theorem L5 (s : Sl) (hs : s.ok) (k : Nat) : (cy s k).2.length ≤ k ∧ ∀ e ∈ (cy s k).2, e.o.ok ∧ gw e.n ∧ 0 ≤ e.a ∧ e.a < 4096 := by
 induction k with
 | zero => exact ⟨Nat.le_refl _, fun e he => by cases he⟩
 | succ k ih =>
  rw [mH];unfold pW;split
  ·rename_i hc;refine ⟨by simp only [List.length_append, List.length_singleton]; omega, fun e he => ?_⟩;simp only [List.mem_append, List.mem_singleton] at he;rcases he with he | rfl
   ·exact ih.2 e he
   ·obtain ⟨-, -, -, q6, q7, -⟩ := hs;have ho := kS q6 k;obtain ⟨o1, o2, o3, o4, -, -⟩ := ho;have hin := jI 3 8 2 cX 3 dM (s.at_.getD k 0 % 8) 0 oM (by show _ < (8 : Int); omega) dM dM;refine ⟨⟨o1, o2, by simp only [jH]; omega, by simp only [jH]; omega, by simp only [jH]; decide, by simp only [jH]; decide⟩, ?_, by simp only [jH]; omega, ?_⟩
    ·simp only [jH];split
     ·rw [List.getD_eq_getElem?_getD, List.getElem?_eq_getElem hc.2.2.1];exact q7 _ (List.getElem_mem _)
     ·exact ⟨o1, o2⟩
    ·have h2 : ah 3 8 2 7 = 448 := ib;simp only [jH];omega
  ·exact ⟨by omega, ih.2⟩
theorem BF (s : Sl) (hs : s.ok) : ∀ x ∈ mV s, x.ok := by
 obtain ⟨h1, h2⟩ := L5 s hs s.at_.length;obtain ⟨-, -, -, -, -, hm, -⟩ := hs;unfold maxLen at hm;intro x hx;unfold mV jg at hx;simp only [List.mem_append, List.mem_cons, List.not_mem_nil, or_false, List.mem_flatMap] at hx;rcases hx with (rfl | rfl) | ⟨e, he, hx⟩
 ·refine ⟨?_, ?_, ?_, ?_, ?_, ?_⟩ <;> simp only [] <;> omega
 ·refine ⟨?_, ?_, ?_, ?_, ?_, ?_⟩ <;> simp only [] <;> omega
 ·obtain ⟨⟨o1, o2, o3, o4, o5, o6⟩, ⟨n1, n2⟩, a1, a2⟩ := h2 e he;unfold rC dW at hx;simp only [List.mem_cons, List.not_mem_nil, or_false] at hx;rcases hx with rfl | rfl | rfl
  ·refine ⟨?_, ?_, ?_, ?_, ?_, ?_⟩ <;> simp only [] <;> (try split) <;> omega
  ·refine ⟨?_, ?_, ?_, ?_, ?_, ?_⟩ <;> simp only [] <;> omega
  ·refine ⟨?_, ?_, ?_, ?_, ?_, ?_⟩ <;> simp only [] <;> omega
theorem EF {p : Nat} {ws o : List W3} (hw : ∀ x ∈ ws, x.ok) (ho : ∀ x ∈ o, x.ok) (k : Nat) : ∀ x ∈ mf p ws o k, x.ok := by
 induction k with
 | zero => exact ho
 | succ k ih => rw [mb]; exact od ih (kS hw k)
theorem zt {l : List Sl} {o : List W3} (hl : ∀ s ∈ l, s.ok) (ho : ∀ x ∈ o, x.ok) (k : Nat) : ∀ x ∈ gV l o k, x.ok := by
 induction k with
 | zero => exact ho
 | succ k ih =>
  rw [jY];unfold qx;split
  ·exact ih
  ·rename_i s hs;split
   ·exact EF (BF s (hl s (List.mem_of_getElem? hs))) ih _
   ·exact ih
theorem GD (i : Nat) : 0 ≤ ju i ∧ ju i ≤ 10 := by
 unfold ju ia
 match i with
 | 0 => decide
 | 1 => decide
 | 2 => decide
 | 3 => decide
 | 4 => decide
 | i + 5 => exact ⟨by simp, by simp⟩
theorem FT {c : Ce} (h : c.ok) : (qY c).ok := by
 obtain ⟨⟨h1, h2⟩, h3, h4, h5⟩ := h;have hw := GD ((c.who % 6).toNat - 1);have hr : 0 ≤ vw c ∧ vw c < 4294967296 := by
  unfold vw;split
  ·exact ⟨by decide, by decide⟩
  ·constructor <;> omega
 exact ⟨h1, h2, by simp only [qY]; omega, by simp only [qY]; omega, hr.1, hr.2⟩
theorem FQ {l : List Ce} {o : List W3} (hl : ∀ s ∈ l, s.ok) (ho : ∀ x ∈ o, x.ok) (k : Nat) : ∀ x ∈ kg l o k, x.ok := by
 induction k with
 | zero => exact ho
 | succ k ih =>
  rw [mJ];split
  ·exact ih
  ·rename_i c hc;exact od ih (FT (hl c (List.mem_of_getElem? hc)))
theorem BM {l : List (Int × Int × Int)} {o : List W3} (hl : ∀ r ∈ l, gw r.1 ∧ gw r.2.1 ∧ gw r.2.2) (ho : ∀ x ∈ o, x.ok) (k : Nat) : ∀ x ∈ iE l o k, x.ok := by
 induction k with
 | zero => exact ho
 | succ k ih =>
  rw [kP];split
  ·exact ih
  ·rename_i r hr;obtain ⟨h1, h2, h3⟩ := hl r (List.mem_of_getElem? hr);unfold om;exact pu (pu (pu ih h1) h2) h3
theorem B6 {l : List W3} {ats : List Int} {o : List W3} (hl : ∀ x ∈ l, x.ok) (ho : ∀ x ∈ o, x.ok) (k : Nat) : ∀ x ∈ iF l ats o k, x.ok := by
 induction k with
 | zero => exact ho
 | succ k ih =>
  rw [kQ];split
  ·exact ih
  ·rename_i y hy;split
   ·exact ih
   ·exact od ih (hl y (List.mem_of_getElem? hy))
theorem bO.ok_words {m : bO} (h : m.ok) : ∀ x ∈ m.words, x.ok := by
 obtain ⟨h1, h2, h3, h4, -⟩ := h;exact B6 h4 (BM h3 (FQ h2 (zt h1 (Fy 3 8 2) _) _) _) _
theorem bO.len_words (m : bO) : m.words.length = 448 := EN _ _ _ _ _
/-! The example of the chapter. -/
def D1 : List W3 := wP [⟨0, 3, [0], [⟨5, 2, 0⟩], [9], true⟩] [⟨5, 2, 1, 3⟩] [(3, 7, 0)] [] []
theorem Mh : rA 3 8 2 (dI 3 8 2 D1) 3 = true := by decide +kernel
theorem Pz : gH 3 8 2 (dI 3 8 2 D1) 1 = (3, 0, 7, 0) := by decide +kernel
theorem Mg : (jw 3 8 2 D1 3)[0]? = some 5 := by decide +kernel
theorem Mi : (dI 3 8 2 D1)[(fG 3 8 2 3 0 0).toNat]? = some ⟨5, 2, 0⟩ := by decide +kernel
end Go.Proofs.YtapjfhbonfehpaaGreatDoor
namespace Go.Proofs.YtapjfhbonfehpaaGreatDoor
open Go.RowKit
def xp (g : Nat) : bO := ⟨some ⟨g + 1 + 1 + 1, 0, none⟩, 1, [⟨0, 3, [0], [⟨5, 2, 0⟩], [9], true⟩], some ⟨g + 1 + 1 + 1 + 1, 0, none⟩, 1, [⟨5, 2, 1, 3⟩], some ⟨g + 1 + 1 + 1 + 1 + 1, 0, none⟩, 1, [(3, 7, 0)], none, 0, [], none, 0, []⟩
theorem mM (g : Nat) : (xp g).words = D1 := rfl
theorem AR (g : Nat) : (xp g).ok := by
 refine ⟨fun s hs => ?_, fun c hc => ?_, fun r hr => ?_, fun x hx => ?_, fun a ha => ?_, (by show 1 ≤ maxLen; decide), (by show 1 ≤ maxLen; decide), (by show 1 ≤ maxLen; decide), Nat.zero_le _, Nat.zero_le _⟩
 ·obtain rfl := List.mem_singleton.1 hs;exact ⟨by decide, by decide, by decide, fun x hx => by
   obtain rfl := List.mem_singleton.1 hx;exact ⟨by decide, by decide, by decide, by decide, by decide, by decide⟩, fun v hv => by
   obtain rfl := List.mem_singleton.1 hv;exact ⟨by decide, by decide⟩, by decide, by decide, by decide⟩
 ·obtain rfl := List.mem_singleton.1 hc;exact ⟨⟨by decide, by decide⟩, ⟨by decide, by decide⟩, ⟨by decide, by decide⟩, ⟨by decide, by decide⟩⟩
 ·obtain rfl := List.mem_singleton.1 hr;exact ⟨⟨by decide, by decide⟩, ⟨by decide, by decide⟩, ⟨by decide, by decide⟩⟩
 ·cases hx
 ·cases ha
theorem pz {w : World} {b n size : Nat} {xs : List Value} (hl : xs.length = n * size) (hb : b < w.heap.size) (h : ∀ j u, xs[j]? = some u → w.cell? ⟨b, j, none⟩ = some u) : Rd w w.heap.size size (some ⟨b, 0, none⟩) n xs := ⟨hl, fun _ => ⟨b, 0, rfl, hb, fun j u hu => by rw [Nat.zero_add]; exact h j u hu⟩⟩
def At (w : World) (b : Nat) (xs : List Value) : Prop := ∀ j u, xs[j]? = some u → w.cell? ⟨b, j, none⟩ = some u
theorem At.one {w : World} {b : Nat} {v : Value} (h : w.cell? ⟨b, 0, none⟩ = some v) : At w b [v] := fun j u hu => by
 match j, hu with
 | 0, hu => injection hu with hu; subst hu; exact h
 | j + 1, hu => simp at hu
theorem At.cons {w : World} {b : Nat} {v : Value} {xs : List Value} (h : w.cell? ⟨b, xs.length, none⟩ = some v) (hx : At w b xs) : At w b (xs ++ [v]) := fun j u hu => by
 rw [List.getElem?_append] at hu;split at hu
 ·exact hx j u hu
 ·rename_i hj;obtain rfl : j = xs.length := by
   have := (List.getElem?_eq_some_iff.1 hu).1;simp at this;omega
  simp at hu;exact hu ▸ h
theorem UK {w : World} {g : Nat} (hg : g + 6 ≤ w.heap.size) (h0 : At w g [.int .u8 0]) (h1 : At w (g + 1) [.int .i64 5, .int .u32 2, .int .u32 0]) (h2 : At w (g + 1 + 1) [.int .i64 9])
  (h3 : At w (g + 1 + 1 + 1) [.int .u8 0, .int .u16 3, .slice (some ⟨g, 0, none⟩) 1 1, .slice (some ⟨g + 1, 0, none⟩) 1 1, .slice (some ⟨g + 1 + 1, 0, none⟩) 1 1, .bool true])
  (h4 : At w (g + 1 + 1 + 1 + 1) [.int .i64 5, .int .u8 2, .int .u8 1, .int .u16 3]) (h5 : At w (g + 1 + 1 + 1 + 1 + 1) [.int .i64 3, .int .i64 7, .int .i64 0]) : (xp g).In w w.heap.size := by
 refine ⟨fun i s his => ?_, pz rfl oM h4, pz rfl oM h5, Rd.nil _ _ _ _, Rd.nil _ _ _ _⟩
 match i, his with
 | 0, his =>
  injection his with his
  subst his;refine ⟨g + 1 + 1 + 1, 0, rfl, by omega, _, ⟨some ⟨g, 0, none⟩, 1, some ⟨g + 1, 0, none⟩, 1, some ⟨g + 1 + 1, 0, none⟩, 1, rfl, pz rfl oM h0, pz rfl oM h1, pz rfl oM h2⟩, fun j u hu => ?_⟩;rw [Nat.zero_mul, Nat.zero_add];(try rw [Nat.zero_add]);exact h3 j u hu
 | i + 1, his => simp [xp] at his
theorem AQ (w : World) (hs : ai w) : Calls Tryz.prog 6 #[] w (cd (.bool true) w) := by
 have hp := hs.pos;have hok : ∀ x ∈ D1, x.ok := (mM 0) ▸ bO.ok_words (AR 0);have hlen : D1.length = 448 := (mM 0) ▸ (xp 0).len_words;have Ql : (jw 3 8 2 D1 3).length = 3 := sV _ _ _ _ _;have Haw := aa Mh;have ac5 := aa Pz;have Hsq := aa Mg;have D7 := aa Mi;go_enter Tryz.func6, Tryz.ntmps6;go_wp2_with (first
  | (go_at_call 4; refine rB (pF _) ?_; intro w1 hb1 ar aA hs1; (try simp at hs1); have hz1 : w.heap.size ≤ w1.heap.size := oM))
 refine (zO (xp (w1.heap.size + 1)) _ ?_ rfl ?_ (AR _)).mono ?_
 ·exact hs.below ae
 ·exact UK sM (At.one (by go_simp)) (((At.one (by go_simp)).cons (by go_simp)).cons (by go_simp)) (At.one (by go_simp))
   ((((((At.one (by go_simp)).cons (by go_simp)).cons (by go_simp)).cons (by go_simp)).cons (by go_simp)).cons (by go_simp))
   ((((At.one (by go_simp)).cons (by go_simp)).cons (by go_simp)).cons (by go_simp)) (((At.one (by go_simp)).cons (by go_simp)).cons (by go_simp))
 rw [mM];rintro e w2 ⟨G, rfl, hM, hG, hb2⟩;have hB2 : Below w.heap.size w w2 := ae;have l0 : w2.cell? ⟨w1.heap.size, 0, none⟩ = some (.int .i64 3) := cT hb2 (by go_simp) (by simp; omega);have l1 : w2.cell? ⟨w1.heap.size, 1, none⟩ = some (.int .i64 8) := cT hb2 (by go_simp) (by simp; omega);have l2 : w2.cell? ⟨w1.heap.size, 2, none⟩ = some (.int .i64 2) := cT hb2 (by go_simp) (by simp; omega);have hs2 := hb2.size;(try simp at hs2);have hz2 := zL w1.heap.size w2;have hy2 : w.heap.size ≤ w2.heap.size := by omega
 have Ks := hM.2.2;have HM := aa hM;clear hb2 hM hG hs2 ar aA hb1;go_wp2_with fail;refine (Iu 3 8 2 G 448 448 D1 _ cX (hs.below ae) (HM.out.grow ae) hlen oM (Nat.le_refl _) hok ib).mono ?_;rintro e w4 hI;unfold kG at hI;rw [show (3 : Int).toNat = 3 from rfl, Haw.out, if_pos rfl] at hI;obtain ⟨gi, abK, A, Mc, rfl, O6, hgi, hci, hcm, hRd, hb4⟩ := hI;obtain ⟨bR, oR, rfl, hbR, hat⟩ := hRd.2 dM;have hrl : td 3 8 2 (dI 3 8 2 D1) 3 = Er 1 (gH 3 8 2 (dI 3 8 2 D1) 1) ++ (Er 2 (gH 3 8 2 (dI 3 8 2 D1) 2) ++ Er 3 (gH 3 8 2 (dI 3 8 2 D1) 3)) := rfl;rw [hrl, ac5.out] at hat;have r0 : w4.cell? ⟨bR, oR, none⟩ = some (.int .i64 1) := hat 0 _ rfl;have r1 : w4.cell? ⟨bR, oR + 1, none⟩ = some (.int .i64 3) := hat 1 _ rfl;have r2 : w4.cell? ⟨bR, oR + 2, none⟩ = some (.int .i64 0) := hat 2 _ rfl;have r3 : w4.cell? ⟨bR, oR + 3, none⟩ = some (.int .i64 7) := hat 3 _ rfl;have hx := D7.out;rw [show (fG 3 8 2 3 0 0).toNat = 56 by decide] at hx;have i0 := O6.w0 hx;have i1 := O6.w1 hx;have i2 := O6.w2 hx;simp only [Nat.reduceMul, Nat.reduceAdd] at i0 i1 i2;obtain ⟨eB, fZ⟩ := bE hb4;have hs4 := hb4.size;have iZ := zL w1.heap.size w4;have yR : w.heap.size ≤ w4.heap.size := by omega
 have hg4 := O6.2.2;have hG4 := zL G w4;have aeE : 0 < abK := by omega
 clear hRd hat hrl hx O6 eB fZ;have k0 : w4.cell? ⟨w1.heap.size, 0, none⟩ = some (.int .i64 3) := cT hb4 l0 hz2;have k1 : w4.cell? ⟨w1.heap.size, 1, none⟩ = some (.int .i64 8) := cT hb4 l1 hz2;have k2 : w4.cell? ⟨w1.heap.size, 2, none⟩ = some (.int .i64 2) := cT hb4 l2 hz2;have hB4 : Below w.heap.size w w4 := ae;have vd := aa (HM.out.grow hb4);clear hb4 l0 l1 l2 HM hB2 hs4;go_wp2_with fail;refine (KO 3 8 2 G 448 448 D1 _ cX (hs.below ae) (vd.out.grow ae) hlen oM hok ib).mono ?_;rw [show (3 : Int).toNat = 3 from rfl];rintro e w5 ⟨Q, af0, rfl, hQ, -, hb5⟩;rw [Ql] at hQ ⊢;obtain ⟨bQ, oQ, rfl, hbQ, hqt⟩ := hQ.2 dM;have q0 : w5.cell? ⟨bQ, oQ, none⟩ = some (.int .i64 5) := hqt 0 _ (by rw [List.getElem?_map, Hsq.out]; rfl);obtain ⟨bX, cw⟩ := bE hb5;have hs5 := hb5.size;have lF := zL w1.heap.size w5;have wW := zL gi w5;have hx5 := zL bR w5;clear hQ hqt;have he := UB 1 3 0 7;have hw := fun W => Pq ⟨5, 2, 0⟩ ⟨5, 2, 0⟩ W;rw [show ql ⟨5, 2, 0⟩ ⟨5, 2, 0⟩ = true from rfl] at hw;go_wp2_with (first
  | (go_at_call 12; refine (yG 3 8 2 0 _ cX (hs.below ae)).mono ?_; rintro e w6 ⟨rfl, hb6⟩; rw [show fG 3 8 2 3 0 0 = 56 by decide]; obtain ⟨iR, iQ, hs6⟩ := bC hb6; (try simp at hs6)))
 go_ret;exact ⟨rfl, ae⟩
end Go.Proofs.YtapjfhbonfehpaaGreatDoor
