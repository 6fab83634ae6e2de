/- The recovery code: logical. -/
import Derived.Test.YtapjfhbonfehpaaGreatDoorV25
import Derived.Test.YtapjfhbonfehpaaGreatDoorV37
set_option linter.unusedSimpArgs false
set_option linter.unusedVariables false
set_option maxRecDepth 100000
set_option maxHeartbeats 40000000
namespace Go.Proofs.YtapjfhbonfehpaaGreatDoor
open Go.RowKit
def cK (n : Nat) (l : List (Int × W3)) : List W3 := l.foldl (fun o p => o.set p.1.toNat p.2) (List.replicate n z3)
theorem Fw (l : List (Int × W3)) : ∀ o : List W3, (l.foldl (fun o p => o.set p.1.toNat p.2) o).length = o.length := by
 induction l with
 | nil => intro o; rfl
 | cons p l ih => intro o; rw [List.foldl_cons, ih, List.length_set]
theorem qV (n : Nat) (l : List (Int × W3)) : (cK n l).length = n := by unfold cK; rw [Fw, List.length_replicate]
theorem CJ (n : Nat) (l : List (Int × W3)) {k : Nat} {p : Int × W3} (h : l[k]? = some p) : cK n (l.take (k + 1)) = (cK n (l.take k)).set p.1.toNat p.2 := dL (fun (o : List W3) (p : Int × W3) => o.set p.1.toNat p.2) (List.replicate n z3) l h
theorem Js (l : List (Int × W3)) (h : ∀ p ∈ l, p.2.ok) : ∀ o : List W3, (∀ x ∈ o, x.ok) → ∀ x ∈ l.foldl (fun o p => o.set p.1.toNat p.2) o, x.ok := by
 induction l with
 | nil => intro o ho; exact ho
 | cons p l ih =>
  intro o ho;rw [List.foldl_cons];refine ih (fun q hq => h q (List.mem_cons_of_mem _ hq)) _ (fun x hx => ?_);rcases List.mem_or_eq_of_mem_set hx with hx | rfl
  ·exact ho x hx
  ·exact h p (List.mem_cons_self ..)
theorem Ju (n : Nat) (l : List (Int × W3)) (h : ∀ p ∈ l, p.2.ok) : ∀ x ∈ cK n l, x.ok := Js l h _ (fun x hx => by
 rw [List.eq_of_mem_replicate hx];unfold W3.ok z3;decide)
theorem oq (c : bf) (g p n : Nat) (w : World) (h : c.R g w) (hv : aC c.T c.C c.B) (hs : ai w) (hn : ah c.T c.C c.B 7 = (n : Int)) (hn0 : 0 < n) (hP : iY c.T c.C c.B p = true) (hp : p < n)
  (hF : ∀ q ∈ c.F.l, 0 ≤ q.1 ∧ q.1 < (n : Int) ∧ q.2.ok) (hm : c.F.l.length ≤ 1000000) :
  Calls Tryz.prog 157 #[.pointer (some ⟨g, 0, none⟩), .int .i64 p] w (cd (qg (aj c.T c.C c.B (cK n c.F.l) p)) w) := by
 obtain ⟨i0, hi, fF, fw, fD⟩ := info_parts jp;have hn4 : n ≤ 4096 := by have := hv.2; omega
 have hgl : g < w.heap.size := h.1.2.2;have hpos := hs.pos;have q0 : w.cell? ⟨g, 0, none⟩ = some (.int .i64 c.T) := h.1.at rfl;have q1 : w.cell? ⟨g, 1, none⟩ = some (.int .i64 c.C) := h.1.at rfl;have q2 : w.cell? ⟨g, 2, none⟩ = some (.int .i64 c.B) := h.1.at rfl;have q11 : w.cell? ⟨g, 11, none⟩ = some (.slice c.F.A c.F.l.length c.F.c) := h.1.at (j := 11) rfl;obtain ⟨m, Gb⟩ : ∃ m, c.F.l.length = m := ⟨_, rfl⟩;rw [Gb] at q11 hm;have Hm := aa Gb;have HR := aa h;have HF := aa hF;have i6 := fun (b : Nat) (W : World) (hs' : ai W) (hM : Mem b (cK n c.F.l) W) => mz c.T c.C c.B b n n p ((cK n c.F.l).getD p z3) (aT ((cK n c.F.l).getD p z3).f).1 (aT ((cK n c.F.l).getD p z3).f).2 (cK n c.F.l) W hv hs' hM (qV _ _) oM (Nat.le_refl _) (Ju n _ (fun q hq => (hF q hq).2.2)) oM hP (by rw [List.getD_eq_getElem?_getD, List.getElem?_eq_getElem (by rw [qV]; exact hp)]; rfl) rfl;generalize aj c.T c.C c.B (cK n c.F.l) p = res at i6 ⊢;have vT := aa i6;have HN := aa hn;have Vv := aa hs;have HV := aa hv;clear h hF Gb i6 hn hs hv;go_enter Tryz.func157, Tryz.ntmps157;go_wp2_with (first
  | (go_at_call 19; refine (fM c.T c.C c.B _ HV.out (Vv.out.below ae)).mono ?_; rintro e w2 ⟨rfl, hb2⟩; rw [HN.out]; obtain ⟨aH, aL, hs2⟩ := bC hb2; (try simp at hs2); have hz2 := zL w.heap.size w2; have hg2 := zL g w2)
  | (at_make; refine wpList_make_full _ rfl _ _ 25 rfl w2.heap.size 56 i0 _ 3 Tryz.underlying25 hi fF fw _ _ _ _ n rfl rfl rfl rfl (by rw [fD]; omega) (by unfold maxLen; omega) sM ?_; intro w3 uk IV; rw [wQ] at uk; obtain ⟨Je, hg3, -⟩ := Mem.of_own uk oM; have hb3 : Below w2.heap.size w2 w3 := (Below.refl _ _).grown IV (Nat.le_refl _) (fun _ h => by cases h); obtain ⟨cN, cH, hs3⟩ := bC hb3; have hz3 := zL w.heap.size w3; have MD := aa Je; clear Je uk IV))
 have adg := cE w3 g 11 (.slice c.F.A m c.F.c);have hB3 : Below w.heap.size w w3 := ae;obtain ⟨G, hG⟩ : ∃ G, G = w2.heap.size := ⟨_, rfl⟩;have Dc : Hid (Mem G (List.replicate n z3) w3) := aa (by rw [hG]; exact MD.out);rw [← hG];have Qw : w.heap.size < G := by omega
 have hG3 : G < w3.heap.size := Dc.out.2.2;have hgG : g ≠ G := by omega
 have hg3 := zL g w3;clear hG;have X0 : Hid (w3.cell? ⟨w.heap.size, 0, none⟩ = some (.int .i64 0)) := aa (by go_simp);have X1 : Hid (w3.cell? ⟨w.heap.size, 1, none⟩ = some (.int .u32 0)) := aa (by go_simp);have X2 : Hid (w3.cell? ⟨w.heap.size, 2, none⟩ = some (.int .u32 0)) := aa (by go_simp);have XF : Hid (∀ o, w3.frozen? ⟨w.heap.size, o, none⟩ = false) := aa (by intro o; go_simp);clear aH aL cN cH hb2 hb3 MD q0 q1 q2 q11
 go_loopw [21, 7] (fun i v wr => ∃ (k : Nat), i = .int .i64 k ∧ k ≤ m ∧ Mem G (cK n (c.F.l.take k)) wr ∧ bB G w3.heap.size w3 wr) (fun i _ _ => m - (intOf i).toNat)
 case atStart => exact ⟨0, rfl, by omega, Dc.out, bB.refl _ _ _⟩
 case round =>
  obtain ⟨k, rfl, hk, M9, yT⟩ := hrel;have E7 := yT.size;have hBw : Below w.heap.size w wr := hB3.trans (yT.below oM oM);have HMk := aa M9;have MF := aa yT;by_cases hlt : k < m
  ·have hat : c.F.l[k]? = some (c.F.l[k]'(by have := Hm.out; omega)) := List.getElem?_eq_getElem _;obtain ⟨q, hq⟩ : ∃ q, c.F.l[k]'(by have := Hm.out; omega) = q := ⟨_, rfl⟩;rw [hq] at hat;obtain ⟨f0, f1, f2⟩ := HF.out q (List.mem_of_getElem? hat);obtain ⟨u, hu⟩ : ∃ u : Nat, q.1 = (u : Int) := ⟨q.1.toNat, by omega⟩;have hun : u < n := by omega
   have adZ : (u : Int) < (n : Int) := by omega
   obtain ⟨b, off, hA, hb, hbg, hc⟩ := (HR.out.below hBw).2.F.at_ iG hat;have hbG : b ≠ G := by
    intro e;obtain ⟨b', off', hA', hb', -⟩ := HR.out.2.F.at_ iG hat;rw [hA] at hA';injection hA' with e1
    injection e1 with e1 _
    omega
   have c0 : wr.cell? ⟨b, off + k * 4, none⟩ = some (.int .i64 u) := by rw [← hu]; exact hc 0 _ rfl
   have c1 : wr.cell? ⟨b, off + k * 4 + 1, none⟩ = some (.int .i64 q.2.v) := hc 1 _ rfl;have c2 : wr.cell? ⟨b, off + k * 4 + 2, none⟩ = some (.int .u32 q.2.r) := hc 2 _ rfl;have c3 : wr.cell? ⟨b, off + k * 4 + 3, none⟩ = some (.int .u32 q.2.f) := hc 3 _ rfl;have h0 : (0 : Int) ≤ (k : Int) := by omega
   have h1 : (k : Int) < (m : Int) := by omega
   have u0 : (0 : Int) ≤ (u : Int) := by omega
   have hkl : u < (cK n (c.F.l.take k)).length := by rw [qV]; exact hun
   have hbl : b < wr.heap.size := hb;have gG : G < wr.heap.size := M9.2.2;have gx := kC hkl;have d0 := M9.w0 gx;have d1 := M9.w1 gx;have d2 := M9.w2 gx;have df := M9.2.1;have fV : Hid (cK n (c.F.l.take (k + 1)) = (cK n (c.F.l.take k)).set u q.2) := aa (by rw [CJ n _ hat, hu]; rfl);rw [hA];clear hc hA hat M9 yT gx hq;have Hu := aa hu;clear hu;go_wp2_with fail;have VF := aa (HMk.out.set3 hkl q.2);rw [← fV.out] at VF;exact ⟨⟨k + 1, by go_num, by omega, VF.out.grow (Below.alloc (Below.refl _ _) (Nat.le_refl _) _), bB.alloc (bB.setCell (bB.setCell (bB.setCell MF.out (.inl rfl) _) (.inl rfl) _) (.inl rfl) _) (by simp; omega) _⟩, by simp [intOf]; omega⟩
  ·obtain rfl : m = k := by omega
   have HMm : Hid (Mem G (cK n c.F.l) wr) := aa (by have h := HMk.out; rwa [List.take_of_length_le (by have := Hm.out; omega)] at h);have Wv := HR.out.below hBw;have r0 : wr.cell? ⟨g, 0, none⟩ = some (.int .i64 c.T) := Wv.1.at rfl;have r1 : wr.cell? ⟨g, 1, none⟩ = some (.int .i64 c.C) := Wv.1.at rfl;have r2 : wr.cell? ⟨g, 2, none⟩ = some (.int .i64 c.B) := Wv.1.at rfl;have hgr := zL g wr;have z0 := zL w.heap.size wr;have x0 : wr.cell? ⟨w.heap.size, 0, none⟩ = some (.int .i64 0) := cU yT X0.out hz3 (by show w.heap.size ≠ G; omega);have x1 : wr.cell? ⟨w.heap.size, 1, none⟩ = some (.int .u32 0) := cU yT X1.out hz3 (by show w.heap.size ≠ G; omega);have x2 : wr.cell? ⟨w.heap.size, 2, none⟩ = some (.int .u32 0) := cU yT X2.out hz3 (by show w.heap.size ≠ G; omega);have xf : ∀ o, wr.frozen? ⟨w.heap.size, o, none⟩ = false := fun o => (yT.frozen (p := ⟨w.heap.size, o, none⟩) hz3 (by show w.heap.size ≠ G; omega)).trans (XF.out o);clear Wv M9 yT;go_wp2_with (first
    | (go_at_call 22; refine rB (vT.out G _ (Vv.out.below ae) (HMm.out.grow ae)) ?_; intro w6 hb6 iR iQ hs6; (try simp at hs6); have zX := zL w.heap.size w6))
   exact bodyPost_ret (v := (.agg #[.int .i64 (res).v, .int .u32 (res).r, .int .u32 (res).f])) (by simp [results, Tryz.results157, go_sem]; (try go_simp)) rfl ⟨rfl, ae⟩
theorem tK (x : W3) (w : World) : Calls Tryz.prog 159 #[(qg x)] w (cd (.bool (!ql x z3)) w) := by
 have hne := sD x z3;simp only [z3] at hne ⊢;go_enter Tryz.func159, Tryz.ntmps159;go_wp2_with fail;go_ret;exact ⟨rfl, ae⟩
theorem BQ (x : W3) (w : World) : Calls Tryz.prog 160 #[(qg x)] w (cd (qg z3) w) := by
 go_enter Tryz.func160, Tryz.ntmps160;go_wp2_with fail;exact bodyPost_ret (v := (.agg #[.int .i64 (z3).v, .int .u32 (z3).r, .int .u32 (z3).f])) (by simp [results, Tryz.results160, go_sem, z3]; (try go_simp)) rfl ⟨by simp [z3], ae⟩
theorem bf.R.putLv {g : Nat} {w : World} {v : bf} (h : v.R g w) {s : SL Int} {x : Value} (hs : s.R v.lo g 1 ny w) (hx : s.v = x) : ({ v with L := s } : bf).R g (w.setCell ⟨g, 8, none⟩ x) := by
 rw [← hx];exact h.putL hs
theorem bM (s : SL Int) (b off n : Nat) (hn : s.l.length = n) (hA : s.A = some ⟨b, off, none⟩) (h : 1 ≤ n) (W : World) : (Instr.slice 77 (.slice (some ⟨b, off, none⟩) n s.c) (some (.int .i64 1)) none none).run Tryz.prog W = .ok (s.tl 1).v W := by
 rw [vp _ _ _ h (fun e => by cases e)];unfold SL.v SL.tl;simp only [hA, List.length_tail, hn]
theorem bf.R.putPv {g : Nat} {w : World} {v : bf} (h : v.R g w) {s : SL Int} {x : Value} (hs : s.R v.lo g 1 ny w) (hx : s.v = x) : ({ v with P := s } : bf).R g (w.setCell ⟨g, 3, none⟩ x) := by
 rw [← hx];exact h.putP hs
theorem bf.R.putSv {g : Nat} {w : World} {v : bf} (h : v.R g w) {s : SL Int} {x : Value} (hs : s.R v.lo g 1 ny w) (hx : s.v = x) : ({ v with S := s } : bf).R g (w.setCell ⟨g, 4, none⟩ x) := by
 rw [← hx];exact h.putS hs
theorem bf.R.putHv {g : Nat} {w : World} {v : bf} (h : v.R g w) {s : SL Int} {x : Value} (hs : s.R v.lo g 1 ny w) (hx : s.v = x) : ({ v with H := s } : bf).R g (w.setCell ⟨g, 5, none⟩ x) := by
 rw [← hx];exact h.putH hs
theorem bf.R.putAv {g : Nat} {w : World} {v : bf} (h : v.R g w) {s : SL AS} {x : Value} (hs : s.R v.lo g 8 uY w) (hx : s.v = x) : ({ v with A := s } : bf).R g (w.setCell ⟨g, 9, none⟩ x) := by
 rw [← hx];exact h.putA hs
theorem SL.R.one {lo : Lo} {g G : Nat} {w : World} {a : Int} (h : w.cell? ⟨G, 0, none⟩ = some (.int .i64 a)) (hg : g + 2 < G) : (⟨some ⟨G, 0, none⟩, 1, [a]⟩ : SL Int).R lo g 1 ny w := by
 refine ⟨Nat.le_refl _, (fun e => by cases e), ⟨rfl, fun _ => ⟨G, 0, rfl, cB h, fun j u hu => ?_⟩⟩, FX.at hg⟩
 match j, hu with
 | 0, hu => injection hu with hu; subst hu; exact h
theorem FA (c : bf) (g : Nat) (w : World) (h : c.R g w) (hl : c.S.l = []) :
  Calls Tryz.prog 158 #[.pointer (some ⟨g, 0, none⟩), .pointer (some ⟨g, 4, none⟩), .func (.func 24) #[] #[], .func (.func 25) #[] #[]] w fun e w' => e = .returned (.bool true) ∧ w' = w := by
 have q : w.cell? ⟨g, 4, none⟩ = some (.slice c.S.A 0 c.S.c) := by have := h.1.at (j := 4) rfl; unfold SL.v at this; rwa [hl] at this
 have hgl : g < w.heap.size := h.1.2.2;clear h hl;go_enter Tryz.func158, Tryz.ntmps158;go_wp2_with fail;go_ret;exact ⟨rfl, rfl⟩
theorem CL (c : bf) (g : Nat) (a : Int) (rest : List Int) (w : World) (h : c.R g w) (hl : c.S.l = a :: rest) (hp : c.part = 0) :
  Calls Tryz.prog 158 #[.pointer (some ⟨g, 0, none⟩), .pointer (some ⟨g, 4, none⟩), .func (.func 24) #[] #[], .func (.func 25) #[] #[]] w fun e w' => e = .returned (.bool false) ∧ ∃ L' : SL Int, L'.l = [a] ∧ L'.c = 1 ∧ ({ c with F := SL.nil (Int × W3), L := L', part := 1 } : bf).R g w' ∧ bB g w.heap.size w w' := by
 obtain ⟨n, hn⟩ : ∃ n, c.S.l.length = n := ⟨_, rfl⟩;have hpos : 0 < n := by rw [← hn, hl]; simp
 obtain ⟨b, off, hA, hb, hbg, hc⟩ := h.2.S.at_ bI (k := 0) (a := a) (by rw [hl]; rfl);have q : w.cell? ⟨g, 4, none⟩ = some (.slice (some ⟨b, off, none⟩) n c.S.c) := by have := h.1.at (j := 4) rfl; unfold SL.v at this; rwa [hA, hn] at this
 have q7 : w.cell? ⟨g, 7, none⟩ = some (.int .i64 0) := by have := h.1.at (j := 7) rfl; rwa [hp] at this
 have qb : w.cell? ⟨b, off, none⟩ = some (.int .i64 a) := by have := hc 0 _ rfl; simpa using this
 have hgl : g < w.heap.size := h.1.2.2;have hcap := h.2.S.1;rw [hn] at hcap;have h0 : (0 : Int) < (n : Int) := by omega
 have h1 : ¬ n = 0 := by omega
 have h2 : ¬ (n : Int) = 0 := by omega
 have h3 : ¬ 0 = n := by omega
 have f11 : ∃ u, w.cell? ⟨g, 11, none⟩ = some u := ⟨_, h.1.at (j := 11) rfl⟩;have f8 : ∃ u, w.cell? ⟨g, 8, none⟩ = some u := ⟨_, h.1.at (j := 8) rfl⟩;obtain ⟨u11, k11⟩ := f11;obtain ⟨u8, k8⟩ := f8;have qf : ∀ o, w.frozen? ⟨g, o, none⟩ = false := h.1.2.1;have HR := aa h;have Hb := aa hb;have e0 : (n == 0) = false := by simpa using h1
 clear hA hc hl hn hp h;go_enter Tryz.func158, Tryz.ntmps158;go_wp2_with fail;go_ret;have qh : g + 2 < w.heap.size := HR.out.2.z;have yw := (((HR.out.1.store (o := 11) (by simp [bf.cs]) (.slice none 0 0)).store (o := 8) (by simp [bf.cs]) (.slice (some ⟨w.heap.size, 0, none⟩) 1 1)).store (o := 7) (by simp [bf.cs]) (.int .i64 1)).below (Below.alloc (Below.refl _ _) (Nat.le_refl _) (.cells #[.int .i64 a] 52));have ut := (((HR.out.2.set 11 (.slice none 0 0)).set 8 (.slice (some ⟨w.heap.size, 0, none⟩) 1 1)).set 7 (.int .i64 1)).below (Below.alloc (Below.refl _ _) (Nat.le_refl _) (.cells #[.int .i64 a] 52));refine ⟨rfl, ⟨some ⟨w.heap.size, 0, none⟩, 1, [a]⟩, rfl, rfl, ?_, ?_⟩
 ·exact ⟨yw, ut.P, ut.S, ut.H, SL.R.one (by go_simp) qh, ut.A, ut.D, SL.R.nil, ut.z⟩
 ·exact uZ
theorem AD (c : bf) (g : Nat) (a : Int) (rest : List Int) (fl : List (Int × W3)) (p : Int × W3) (w : World) (h : c.R g w) (hl : c.S.l = a :: rest) (hp : ¬ c.part = 0) (hf : c.F.l = fl ++ [p]) (hfl : fl.length ≤ 1000000) (hx : p.2.ok) (qj : c.A.l.length ≤ 1000000) (hD6 : c.D.l.length ≤ 1000000) (hsh : bD p.2 = true) :
  Calls Tryz.prog 158 #[.pointer (some ⟨g, 0, none⟩), .pointer (some ⟨g, 4, none⟩), .func (.func 24) #[] #[], .func (.func 25) #[] #[]] w fun e w' => e = .returned (.bool false) ∧ ∃ (A' : SL AS) (D' : SL Int), A'.l = c.A.l ++ [⟨3, a, 0, 0, 0, (ei p.2).v, (ei p.2).r, (ei p.2).f⟩] ∧ D'.l = c.D.l ++ [a] ∧ ({ c with A := A', D := D', S := c.S.tl 1, part := 0 } : bf).R g w' ∧ bB g w.heap.size w w' := by
 obtain ⟨n, hn⟩ : ∃ n, c.S.l.length = n := ⟨_, rfl⟩;have hpos : 0 < n := by rw [← hn, hl]; simp
 obtain ⟨b, off, hA, hb, hbg, hc⟩ := h.2.S.at_ bI (k := 0) (a := a) (by rw [hl]; rfl);have q : w.cell? ⟨g, 4, none⟩ = some (.slice (some ⟨b, off, none⟩) n c.S.c) := by have := h.1.at (j := 4) rfl; unfold SL.v at this; rwa [hA, hn] at this
 have q7 : w.cell? ⟨g, 7, none⟩ = some (.int .i64 c.part) := h.1.at (j := 7) rfl;have qb : w.cell? ⟨b, off, none⟩ = some (.int .i64 a) := by have := hc 0 _ rfl; simpa using this
 have hgl : g < w.heap.size := h.1.2.2;have qf : ∀ o, w.frozen? ⟨g, o, none⟩ = false := h.1.2.1;have hcap := h.2.S.1;rw [hn] at hcap;have h0 : (0 : Int) < (n : Int) := by omega
 have h1 : ¬ n = 0 := by omega
 have h2 : ¬ (n : Int) = 0 := by omega
 have e0 : (n == 0) = false := by simpa using h1
 obtain ⟨TA, TN, TC, hTe⟩ : ∃ TA TN TC, (c.S.tl 1).v = .slice TA TN TC := ⟨_, _, _, rfl⟩;have hsl := fun W => bM c.S b off n hn hA oM W;rw [hTe] at hsl;have vW := aa hTe;clear hTe;have hlast := fun W (hW : c.R g W) => jc c g fl p W hW hf hfl;have iq := aa hlast;have HR := aa h;have HA := aa hA;have Hn := aa hn;have Hl := aa hl;clear hA hc hn h hl hf hlast;have hst := fun W (hW : c.R g W) => l9 c g a (ei p.2) W hW qj hD6;have fV := aa hst;clear hst;go_enter Tryz.func158, Tryz.ntmps158;go_wp2_with (first
  | (go_at_call 155; refine rB (iq.out _ (HR.out.below ae)) ?_; intro w1 hb1 ar aA hs1; (try simp at hs1); have hg1 := zL g w1)
  | (go_at_call 24; refine (iD p.2 _).mono ?_; rintro e w2 ⟨rfl, hb2⟩; rw [hsh]; obtain ⟨aH, aL, hs2⟩ := bC hb2; (try simp at hs2); have hg2 := zL g w2; have hn2 := zL w.heap.size w2)
  | (go_at_call 25; refine (uJ p.2 _ (by unfold W3.ok at hx; omega) (by unfold W3.ok at hx; omega)).mono ?_; rintro e w3 ⟨rfl, hb3⟩; obtain ⟨cN, cH, hs3⟩ := bC hb3; (try simp at hs3); have hg3 := zL g w3)
  | (go_at_call 156; refine (fV.out _ (HR.out.below ae)).mono ?_; rintro e w4 ⟨A', D', rfl, yx, hD4, dY, hB4⟩; have hBw : Below w.heap.size w w3 := ae; have kY := (bB.refl g w.heap.size w).of hBw; have jF := kY.trans (hB4.mono hBw.size); have hs4 := jF.size; have qf4 := dY.1.2.1; have hg4 : g < w4.heap.size := dY.1.2.2; have q4 : w4.cell? ⟨g, 4, none⟩ = some (.slice (some ⟨b, off, none⟩) n c.S.c) := (by have h := dY.1.at (j := 4) rfl; unfold SL.v at h; rwa [HA.out, Hn.out] at h); have NK : w4.cell? ⟨g, 7, none⟩ = some (.int .i64 c.part) := dY.1.at (j := 7) rfl; have iI := aa dY; have jr := aa jF; have Kf := aa yx; have Kd := aa hD4; clear dY hB4 jF kY hBw yx hD4))
 go_ret;have hT := iI.out.2.S.tl bI (a := a) (l := rest) Hl.out;have hN1 := iI.out.putSv hT vW.out;have yS := hN1.putPart 0;refine ⟨rfl, A', D', Kf.out, Kd.out, ?_, ?_⟩
 ·with_reducible exact yS
 ·exact bB.setCell (bB.setCell jr.out (.inl rfl) _) (.inl rfl) _
theorem CK (c : bf) (g : Nat) (a : Int) (rest : List Int) (fl : List (Int × W3)) (p : Int × W3) (w : World) (h : c.R g w) (hl : c.S.l = a :: rest) (hp : ¬ c.part = 0) (hf : c.F.l = fl ++ [p]) (hfl : fl.length ≤ 1000000) (hx : p.2.ok) (hsh : bD p.2 = false) :
  Calls Tryz.prog 158 #[.pointer (some ⟨g, 0, none⟩), .pointer (some ⟨g, 4, none⟩), .func (.func 24) #[] #[], .func (.func 25) #[] #[]] w fun e w' => e = .returned (.bool false) ∧ ({ c with S := c.S.tl 1, part := 0 } : bf).R g w' ∧ bB g w.heap.size w w' := by
 obtain ⟨n, hn⟩ : ∃ n, c.S.l.length = n := ⟨_, rfl⟩;have hpos : 0 < n := by rw [← hn, hl]; simp
 obtain ⟨b, off, hA, hb, hbg, hc⟩ := h.2.S.at_ bI (k := 0) (a := a) (by rw [hl]; rfl);have q : w.cell? ⟨g, 4, none⟩ = some (.slice (some ⟨b, off, none⟩) n c.S.c) := by have := h.1.at (j := 4) rfl; unfold SL.v at this; rwa [hA, hn] at this
 have q7 : w.cell? ⟨g, 7, none⟩ = some (.int .i64 c.part) := h.1.at (j := 7) rfl;have qb : w.cell? ⟨b, off, none⟩ = some (.int .i64 a) := by have := hc 0 _ rfl; simpa using this
 have hgl : g < w.heap.size := h.1.2.2;have qf : ∀ o, w.frozen? ⟨g, o, none⟩ = false := h.1.2.1;have hcap := h.2.S.1;rw [hn] at hcap;have h0 : (0 : Int) < (n : Int) := by omega
 have h1 : ¬ n = 0 := by omega
 have h2 : ¬ (n : Int) = 0 := by omega
 have e0 : (n == 0) = false := by simpa using h1
 obtain ⟨TA, TN, TC, hTe⟩ : ∃ TA TN TC, (c.S.tl 1).v = .slice TA TN TC := ⟨_, _, _, rfl⟩;have hsl := fun W => bM c.S b off n hn hA oM W;rw [hTe] at hsl;have vW := aa hTe;clear hTe;have hlast := fun W (hW : c.R g W) => jc c g fl p W hW hf hfl;have iq := aa hlast;have HR := aa h;have HA := aa hA;have Hn := aa hn;have Hl := aa hl;clear hA hc hn h hl hf hlast;go_enter Tryz.func158, Tryz.ntmps158;go_wp2_with (first
  | (go_at_call 155; refine rB (iq.out _ (HR.out.below ae)) ?_; intro w1 hb1 ar aA hs1; (try simp at hs1); have hg1 := zL g w1)
  | (go_at_call 24; refine (iD p.2 _).mono ?_; rintro e w2 ⟨rfl, hb2⟩; rw [hsh]; obtain ⟨aH, aL, hs2⟩ := bC hb2; (try simp at hs2); have hg2 := zL g w2; have hn2 := zL w.heap.size w2; have Ai : Below w.heap.size w w2 := ae; have q2f := (HR.out.below Ai).1.2.1; have q24 : w2.cell? ⟨g, 4, none⟩ = some (.slice (some ⟨b, off, none⟩) n c.S.c) := (by have h := (HR.out.below Ai).1.at (j := 4) rfl; unfold SL.v at h; rwa [HA.out, Hn.out] at h); have q27 : w2.cell? ⟨g, 7, none⟩ = some (.int .i64 c.part) := (HR.out.below Ai).1.at (j := 7) rfl))
 have hBw : Below w.heap.size w w2 := ae;have jr := aa ((bB.refl g w.heap.size w).of hBw);have iI := aa (HR.out.below hBw);go_ret;have hT := iI.out.2.S.tl bI (a := a) (l := rest) Hl.out;have hN1 := iI.out.putSv hT vW.out;have yS := hN1.putPart 0;refine ⟨rfl, ?_, ?_⟩
 ·with_reducible exact yS
 ·exact bB.setCell (bB.setCell jr.out (.inl rfl) _) (.inl rfl) _
theorem FB (c : bf) (g : Nat) (w : World) (h : c.R g w) (hl : c.H.l = []) :
  Calls Tryz.prog 158 #[.pointer (some ⟨g, 0, none⟩), .pointer (some ⟨g, 5, none⟩), .func (.func 159) #[] #[], .func (.func 160) #[] #[]] w fun e w' => e = .returned (.bool true) ∧ w' = w := by
 have q : w.cell? ⟨g, 5, none⟩ = some (.slice c.H.A 0 c.H.c) := by have := h.1.at (j := 5) rfl; unfold SL.v at this; rwa [hl] at this
 have hgl : g < w.heap.size := h.1.2.2;clear h hl;go_enter Tryz.func158, Tryz.ntmps158;go_wp2_with fail;go_ret;exact ⟨rfl, rfl⟩
theorem CN (c : bf) (g : Nat) (a : Int) (rest : List Int) (w : World) (h : c.R g w) (hl : c.H.l = a :: rest) (hp : c.part = 0) :
  Calls Tryz.prog 158 #[.pointer (some ⟨g, 0, none⟩), .pointer (some ⟨g, 5, none⟩), .func (.func 159) #[] #[], .func (.func 160) #[] #[]] w fun e w' => e = .returned (.bool false) ∧ ∃ L' : SL Int, L'.l = [a] ∧ L'.c = 1 ∧ ({ c with F := SL.nil (Int × W3), L := L', part := 1 } : bf).R g w' ∧ bB g w.heap.size w w' := by
 obtain ⟨n, hn⟩ : ∃ n, c.H.l.length = n := ⟨_, rfl⟩;have hpos : 0 < n := by rw [← hn, hl]; simp
 obtain ⟨b, off, hA, hb, hbg, hc⟩ := h.2.H.at_ bI (k := 0) (a := a) (by rw [hl]; rfl);have q : w.cell? ⟨g, 5, none⟩ = some (.slice (some ⟨b, off, none⟩) n c.H.c) := by have := h.1.at (j := 5) rfl; unfold SL.v at this; rwa [hA, hn] at this
 have q7 : w.cell? ⟨g, 7, none⟩ = some (.int .i64 0) := by have := h.1.at (j := 7) rfl; rwa [hp] at this
 have qb : w.cell? ⟨b, off, none⟩ = some (.int .i64 a) := by have := hc 0 _ rfl; simpa using this
 have hgl : g < w.heap.size := h.1.2.2;have hcap := h.2.H.1;rw [hn] at hcap;have h0 : (0 : Int) < (n : Int) := by omega
 have h1 : ¬ n = 0 := by omega
 have h2 : ¬ (n : Int) = 0 := by omega
 have h3 : ¬ 0 = n := by omega
 have f11 : ∃ u, w.cell? ⟨g, 11, none⟩ = some u := ⟨_, h.1.at (j := 11) rfl⟩;have f8 : ∃ u, w.cell? ⟨g, 8, none⟩ = some u := ⟨_, h.1.at (j := 8) rfl⟩;obtain ⟨u11, k11⟩ := f11;obtain ⟨u8, k8⟩ := f8;have qf : ∀ o, w.frozen? ⟨g, o, none⟩ = false := h.1.2.1;have HR := aa h;have Hb := aa hb;have e0 : (n == 0) = false := by simpa using h1
 clear hA hc hl hn hp h;go_enter Tryz.func158, Tryz.ntmps158;go_wp2_with fail;go_ret;have qh : g + 2 < w.heap.size := HR.out.2.z;have yw := (((HR.out.1.store (o := 11) (by simp [bf.cs]) (.slice none 0 0)).store (o := 8) (by simp [bf.cs]) (.slice (some ⟨w.heap.size, 0, none⟩) 1 1)).store (o := 7) (by simp [bf.cs]) (.int .i64 1)).below (Below.alloc (Below.refl _ _) (Nat.le_refl _) (.cells #[.int .i64 a] 52));have ut := (((HR.out.2.set 11 (.slice none 0 0)).set 8 (.slice (some ⟨w.heap.size, 0, none⟩) 1 1)).set 7 (.int .i64 1)).below (Below.alloc (Below.refl _ _) (Nat.le_refl _) (.cells #[.int .i64 a] 52));refine ⟨rfl, ⟨some ⟨w.heap.size, 0, none⟩, 1, [a]⟩, rfl, rfl, ?_, ?_⟩
 ·exact ⟨yw, ut.P, ut.S, ut.H, SL.R.one (by go_simp) qh, ut.A, ut.D, SL.R.nil, ut.z⟩
 ·exact uZ
theorem AE (c : bf) (g : Nat) (a : Int) (rest : List Int) (fl : List (Int × W3)) (p : Int × W3) (w : World) (h : c.R g w) (hl : c.H.l = a :: rest) (hp : ¬ c.part = 0) (hf : c.F.l = fl ++ [p]) (hfl : fl.length ≤ 1000000) (hx : p.2.ok) (qj : c.A.l.length ≤ 1000000) (hD6 : c.D.l.length ≤ 1000000) (hsh : (!ql p.2 z3) = true) :
  Calls Tryz.prog 158 #[.pointer (some ⟨g, 0, none⟩), .pointer (some ⟨g, 5, none⟩), .func (.func 159) #[] #[], .func (.func 160) #[] #[]] w fun e w' => e = .returned (.bool false) ∧ ∃ (A' : SL AS) (D' : SL Int), A'.l = c.A.l ++ [⟨3, a, 0, 0, 0, (z3).v, (z3).r, (z3).f⟩] ∧ D'.l = c.D.l ++ [a] ∧ ({ c with A := A', D := D', H := c.H.tl 1, part := 0 } : bf).R g w' ∧ bB g w.heap.size w w' := by
 obtain ⟨n, hn⟩ : ∃ n, c.H.l.length = n := ⟨_, rfl⟩;have hpos : 0 < n := by rw [← hn, hl]; simp
 obtain ⟨b, off, hA, hb, hbg, hc⟩ := h.2.H.at_ bI (k := 0) (a := a) (by rw [hl]; rfl);have q : w.cell? ⟨g, 5, none⟩ = some (.slice (some ⟨b, off, none⟩) n c.H.c) := by have := h.1.at (j := 5) rfl; unfold SL.v at this; rwa [hA, hn] at this
 have q7 : w.cell? ⟨g, 7, none⟩ = some (.int .i64 c.part) := h.1.at (j := 7) rfl;have qb : w.cell? ⟨b, off, none⟩ = some (.int .i64 a) := by have := hc 0 _ rfl; simpa using this
 have hgl : g < w.heap.size := h.1.2.2;have qf : ∀ o, w.frozen? ⟨g, o, none⟩ = false := h.1.2.1;have hcap := h.2.H.1;rw [hn] at hcap;have h0 : (0 : Int) < (n : Int) := by omega
 have h1 : ¬ n = 0 := by omega
 have h2 : ¬ (n : Int) = 0 := by omega
 have e0 : (n == 0) = false := by simpa using h1
 obtain ⟨TA, TN, TC, hTe⟩ : ∃ TA TN TC, (c.H.tl 1).v = .slice TA TN TC := ⟨_, _, _, rfl⟩;have hsl := fun W => bM c.H b off n hn hA oM W;rw [hTe] at hsl;have vW := aa hTe;clear hTe;have hlast := fun W (hW : c.R g W) => jc c g fl p W hW hf hfl;have iq := aa hlast;have HR := aa h;have HA := aa hA;have Hn := aa hn;have Hl := aa hl;clear hA hc hn h hl hf hlast;have hst := fun W (hW : c.R g W) => l9 c g a (z3) W hW qj hD6;have fV := aa hst;clear hst;go_enter Tryz.func158, Tryz.ntmps158;go_wp2_with (first
  | (go_at_call 155; refine rB (iq.out _ (HR.out.below ae)) ?_; intro w1 hb1 ar aA hs1; (try simp at hs1); have hg1 := zL g w1)
  | (go_at_call 159; refine (tK p.2 _).mono ?_; rintro e w2 ⟨rfl, hb2⟩; rw [hsh]; obtain ⟨aH, aL, hs2⟩ := bC hb2; (try simp at hs2); have hg2 := zL g w2; have hn2 := zL w.heap.size w2)
  | (go_at_call 160; refine rB (BQ p.2 _) ?_; intro w3 hb3 cN cH hs3; (try simp at hs3); have hg3 := zL g w3)
  | (go_at_call 156; refine (fV.out _ (HR.out.below ae)).mono ?_; rintro e w4 ⟨A', D', rfl, yx, hD4, dY, hB4⟩; have hBw : Below w.heap.size w w3 := ae; have kY := (bB.refl g w.heap.size w).of hBw; have jF := kY.trans (hB4.mono hBw.size); have hs4 := jF.size; have qf4 := dY.1.2.1; have hg4 : g < w4.heap.size := dY.1.2.2; have q4 : w4.cell? ⟨g, 5, none⟩ = some (.slice (some ⟨b, off, none⟩) n c.H.c) := (by have h := dY.1.at (j := 5) rfl; unfold SL.v at h; rwa [HA.out, Hn.out] at h); have NK : w4.cell? ⟨g, 7, none⟩ = some (.int .i64 c.part) := dY.1.at (j := 7) rfl; have iI := aa dY; have jr := aa jF; have Kf := aa yx; have Kd := aa hD4; clear dY hB4 jF kY hBw yx hD4))
 go_ret;have hT := iI.out.2.H.tl bI (a := a) (l := rest) Hl.out;have hN1 := iI.out.putHv hT vW.out;have yS := hN1.putPart 0;refine ⟨rfl, A', D', Kf.out, Kd.out, ?_, ?_⟩
 ·with_reducible exact yS
 ·exact bB.setCell (bB.setCell jr.out (.inl rfl) _) (.inl rfl) _
theorem CM (c : bf) (g : Nat) (a : Int) (rest : List Int) (fl : List (Int × W3)) (p : Int × W3) (w : World) (h : c.R g w) (hl : c.H.l = a :: rest) (hp : ¬ c.part = 0) (hf : c.F.l = fl ++ [p]) (hfl : fl.length ≤ 1000000) (hx : p.2.ok) (hsh : (!ql p.2 z3) = false) :
  Calls Tryz.prog 158 #[.pointer (some ⟨g, 0, none⟩), .pointer (some ⟨g, 5, none⟩), .func (.func 159) #[] #[], .func (.func 160) #[] #[]] w fun e w' => e = .returned (.bool false) ∧ ({ c with H := c.H.tl 1, part := 0 } : bf).R g w' ∧ bB g w.heap.size w w' := by
 obtain ⟨n, hn⟩ : ∃ n, c.H.l.length = n := ⟨_, rfl⟩;have hpos : 0 < n := by rw [← hn, hl]; simp
 obtain ⟨b, off, hA, hb, hbg, hc⟩ := h.2.H.at_ bI (k := 0) (a := a) (by rw [hl]; rfl);have q : w.cell? ⟨g, 5, none⟩ = some (.slice (some ⟨b, off, none⟩) n c.H.c) := by have := h.1.at (j := 5) rfl; unfold SL.v at this; rwa [hA, hn] at this
 have q7 : w.cell? ⟨g, 7, none⟩ = some (.int .i64 c.part) := h.1.at (j := 7) rfl;have qb : w.cell? ⟨b, off, none⟩ = some (.int .i64 a) := by have := hc 0 _ rfl; simpa using this
 have hgl : g < w.heap.size := h.1.2.2;have qf : ∀ o, w.frozen? ⟨g, o, none⟩ = false := h.1.2.1;have hcap := h.2.H.1;rw [hn] at hcap;have h0 : (0 : Int) < (n : Int) := by omega
 have h1 : ¬ n = 0 := by omega
 have h2 : ¬ (n : Int) = 0 := by omega
 have e0 : (n == 0) = false := by simpa using h1
 obtain ⟨TA, TN, TC, hTe⟩ : ∃ TA TN TC, (c.H.tl 1).v = .slice TA TN TC := ⟨_, _, _, rfl⟩;have hsl := fun W => bM c.H b off n hn hA oM W;rw [hTe] at hsl;have vW := aa hTe;clear hTe;have hlast := fun W (hW : c.R g W) => jc c g fl p W hW hf hfl;have iq := aa hlast;have HR := aa h;have HA := aa hA;have Hn := aa hn;have Hl := aa hl;clear hA hc hn h hl hf hlast;go_enter Tryz.func158, Tryz.ntmps158;go_wp2_with (first
  | (go_at_call 155; refine rB (iq.out _ (HR.out.below ae)) ?_; intro w1 hb1 ar aA hs1; (try simp at hs1); have hg1 := zL g w1)
  | (go_at_call 159; refine (tK p.2 _).mono ?_; rintro e w2 ⟨rfl, hb2⟩; rw [hsh]; obtain ⟨aH, aL, hs2⟩ := bC hb2; (try simp at hs2); have hg2 := zL g w2; have hn2 := zL w.heap.size w2; have Ai : Below w.heap.size w w2 := ae; have q2f := (HR.out.below Ai).1.2.1; have q24 : w2.cell? ⟨g, 5, none⟩ = some (.slice (some ⟨b, off, none⟩) n c.H.c) := (by have h := (HR.out.below Ai).1.at (j := 5) rfl; unfold SL.v at h; rwa [HA.out, Hn.out] at h); have q27 : w2.cell? ⟨g, 7, none⟩ = some (.int .i64 c.part) := (HR.out.below Ai).1.at (j := 7) rfl))
 have hBw : Below w.heap.size w w2 := ae;have jr := aa ((bB.refl g w.heap.size w).of hBw);have iI := aa (HR.out.below hBw);go_ret;have hT := iI.out.2.H.tl bI (a := a) (l := rest) Hl.out;have hN1 := iI.out.putHv hT vW.out;have yS := hN1.putPart 0;refine ⟨rfl, ?_, ?_⟩
 ·with_reducible exact yS
 ·exact bB.setCell (bB.setCell jr.out (.inl rfl) _) (.inl rfl) _
theorem ED {Q : Bool → World → Prop} (g : Nat) (w : World) (h : Calls Tryz.prog 158 #[.pointer (some ⟨g, 0, none⟩), .pointer (some ⟨g, 4, none⟩), .func (.func 24) #[] #[], .func (.func 25) #[] #[]] w fun e w' => ∃ b, e = .returned (.bool b) ∧ Q b w') :
  Calls Tryz.prog 152 #[.pointer (some ⟨g, 0, none⟩)] w fun e w' => ∃ b, e = .returned (.bool b) ∧ Q b w' := by
 have H := aa h;clear h;go_enter Tryz.func152, Tryz.ntmps152;go_wp2_with (first | (go_at_call 158; refine H.out.mono ?_; rintro e w1 ⟨b, rfl, hq⟩; have Hq := aa hq; clear hq));go_ret;exact ⟨b, rfl, Hq.out⟩
theorem GV {Q : Bool → World → Prop} (g : Nat) (w : World) (h : Calls Tryz.prog 158 #[.pointer (some ⟨g, 0, none⟩), .pointer (some ⟨g, 5, none⟩), .func (.func 159) #[] #[], .func (.func 160) #[] #[]] w fun e w' => ∃ b, e = .returned (.bool b) ∧ Q b w') :
  Calls Tryz.prog 153 #[.pointer (some ⟨g, 0, none⟩)] w fun e w' => ∃ b, e = .returned (.bool b) ∧ Q b w' := by
 have H := aa h;clear h;go_enter Tryz.func153, Tryz.ntmps153;go_wp2_with (first | (go_at_call 158; refine H.out.mono ?_; rintro e w1 ⟨b, rfl, hq⟩; have Hq := aa hq; clear hq));go_ret;exact ⟨b, rfl, Hq.out⟩
theorem EH (c : bf) (g : Nat) (w : World) (h : c.R g w) (hl : c.P.l = []) :
  Calls Tryz.prog 150 #[.pointer (some ⟨g, 0, none⟩)] w fun e w' => e = .returned (.bool true) ∧ w' = w := by
 have q : w.cell? ⟨g, 3, none⟩ = some (.slice c.P.A 0 c.P.c) := by have := h.1.at (j := 3) rfl; unfold SL.v at this; rwa [hl] at this
 have hgl : g < w.heap.size := h.1.2.2;clear h hl;go_enter Tryz.func150, Tryz.ntmps150;go_wp2_with fail;go_ret;exact ⟨rfl, rfl⟩
theorem BV (c : bf) (g : Nat) (a : Int) (rest : List Int) (w : World) (h : c.R g w) (hl : c.P.l = a :: rest) (hp : c.part = 0) :
  Calls Tryz.prog 150 #[.pointer (some ⟨g, 0, none⟩)] w fun e w' => e = .returned (.bool false) ∧ ∃ L' : SL Int, L'.l = [a] ∧ L'.c = 1 ∧ ({ c with F := SL.nil (Int × W3), L := L', part := 1 } : bf).R g w' ∧ bB g w.heap.size w w' := by
 obtain ⟨u11, k11⟩ : ∃ u, w.cell? ⟨g, 11, none⟩ = some u := ⟨_, h.1.at (j := 11) rfl⟩;obtain ⟨u8, k8⟩ : ∃ u, w.cell? ⟨g, 8, none⟩ = some u := ⟨_, h.1.at (j := 8) rfl⟩;obtain ⟨n, hn⟩ : ∃ n, c.P.l.length = n := ⟨_, rfl⟩;have hpos : 0 < n := by rw [← hn, hl]; simp
 obtain ⟨b, off, hA, hb, hbg, hc⟩ := h.2.P.at_ bI (k := 0) (a := a) (by rw [hl]; rfl);have q : w.cell? ⟨g, 3, none⟩ = some (.slice (some ⟨b, off, none⟩) n c.P.c) := by have := h.1.at (j := 3) rfl; unfold SL.v at this; rwa [hA, hn] at this
 have q7 : w.cell? ⟨g, 7, none⟩ = some (.int .i64 c.part) := h.1.at (j := 7) rfl;have qb : w.cell? ⟨b, off, none⟩ = some (.int .i64 a) := by have := hc 0 _ rfl; simpa using this
 have hgl : g < w.heap.size := h.1.2.2;have qf : ∀ o, w.frozen? ⟨g, o, none⟩ = false := h.1.2.1;have hcap := h.2.P.1;rw [hn] at hcap;have h0 : (0 : Int) < (n : Int) := by omega
 have h1 : ¬ n = 0 := by omega
 have h2 : ¬ (n : Int) = 0 := by omega
 have e0 : (n == 0) = false := by simpa using h1
 obtain ⟨TA, TN, TC, hTe⟩ : ∃ TA TN TC, (c.P.tl 1).v = .slice TA TN TC := ⟨_, _, _, rfl⟩;have hsl := fun W => bM c.P b off n hn hA oM W;rw [hTe] at hsl;have vW := aa hTe;have HA := aa hA;have Hn := aa hn;have Hl := aa hl;have HR := aa h;clear hTe hA hc hn h hl;rw [hp] at q7;clear hp;go_enter Tryz.func150, Tryz.ntmps150;go_wp2_with fail;go_ret;have qh : g + 2 < w.heap.size := HR.out.2.z;have yw := (((HR.out.1.store (o := 11) (by simp [bf.cs]) (.slice none 0 0)).store (o := 8) (by simp [bf.cs]) (.slice (some ⟨w.heap.size, 0, none⟩) 1 1)).store (o := 7) (by simp [bf.cs]) (.int .i64 1)).below (Below.alloc (Below.refl _ _) (Nat.le_refl _) (.cells #[.int .i64 a] 52));have ut := (((HR.out.2.set 11 (.slice none 0 0)).set 8 (.slice (some ⟨w.heap.size, 0, none⟩) 1 1)).set 7 (.int .i64 1)).below (Below.alloc (Below.refl _ _) (Nat.le_refl _) (.cells #[.int .i64 a] 52));refine ⟨rfl, ⟨some ⟨w.heap.size, 0, none⟩, 1, [a]⟩, rfl, rfl, ?_, ?_⟩
 ·exact ⟨yw, ut.P, ut.S, ut.H, SL.R.one (by go_simp) qh, ut.A, ut.D, SL.R.nil, ut.z⟩
 ·exact uZ
theorem SL.R.two {lo : Lo} {g G : Nat} {w : World} {a b : Int} (h : w.cell? ⟨G, 0, none⟩ = some (.int .i64 a)) (h1 : w.cell? ⟨G, 1, none⟩ = some (.int .i64 b)) (hg : g + 2 < G) : (⟨some ⟨G, 0, none⟩, 2, [a, b]⟩ : SL Int).R lo g 1 ny w := by
 refine ⟨Nat.le_refl _, (fun e => by cases e), ⟨rfl, fun _ => ⟨G, 0, rfl, cB h, fun j u hu => ?_⟩⟩, FX.at hg⟩
 match j, hu with
 | 0, hu => injection hu with hu; subst hu; exact h
 | 1, hu => injection hu with hu; subst hu; exact h1
theorem EG (c : bf) (g : Nat) (a : Int) (rest : List Int) (fl : List (Int × W3)) (p : Int × W3) (w : World) (h : c.R g w) (hl : c.P.l = a :: rest) (hp : c.part = 1) (hf : c.F.l = fl ++ [p]) (hfl : fl.length ≤ 1000000) (hx : p.2.ok) (hv : aC c.T c.C c.B) (hs : ai w) (hok : dB c.T c.C c.B p.2 = true) :
  Calls Tryz.prog 150 #[.pointer (some ⟨g, 0, none⟩)] w fun e w' => e = .returned (.bool false) ∧ ∃ L' : SL Int, L'.l = [aF c.T c.C c.B (aT p.2.f).1, aF c.T c.C c.B (aT p.2.f).1 + 1] ∧ L'.c = 2 ∧ ({ c with L := L', part := 2 } : bf).R g w' ∧ bB g w.heap.size w w' := by
 obtain ⟨u8, k8⟩ : ∃ u, w.cell? ⟨g, 8, none⟩ = some u := ⟨_, h.1.at (j := 8) rfl⟩;have hlast := fun W (hW : c.R g W) => jc c g fl p W hW hf hfl;have kV := fun W (hW : c.R g W) (hs' : ai W) => tJ c g p.2 W hW hv hs' (by unfold W3.ok at hx; omega) (by unfold W3.ok at hx; omega);have hpl : aF c.T c.C c.B (aT p.2.f).1 ≤ 100000 ∧ 0 ≤ aF c.T c.C c.B (aT p.2.f).1 := by
  unfold dB at hok;simp only [Bool.and_eq_true, decide_eq_true_eq] at hok;have hN : aD c.T c.C c.B (aT p.2.f).1 ≠ 0 := by
   intro e;have h2 := hok.2;unfold aD at e;unfold aF at h2;split at e
   ·rename_i hneg;rw [if_pos hneg] at h2;omega
   ·split at e <;> omega
  obtain ⟨k, hk, hk1, hk2, hk3⟩ := kv c.T c.C c.B _ hv hN;have := hv.2;omega
 generalize hPl : aF c.T c.C c.B (aT p.2.f).1 = pl at *;generalize hPn : aD c.T c.C c.B (aT p.2.f).1 = pn at *;have iq := aa hlast;have uR := aa kV;have HS := aa hs;obtain ⟨n, hn⟩ : ∃ n, c.P.l.length = n := ⟨_, rfl⟩;have hpos : 0 < n := by rw [← hn, hl]; simp
 obtain ⟨b, off, hA, hb, hbg, hc⟩ := h.2.P.at_ bI (k := 0) (a := a) (by rw [hl]; rfl);have q : w.cell? ⟨g, 3, none⟩ = some (.slice (some ⟨b, off, none⟩) n c.P.c) := by have := h.1.at (j := 3) rfl; unfold SL.v at this; rwa [hA, hn] at this
 have q7 : w.cell? ⟨g, 7, none⟩ = some (.int .i64 c.part) := h.1.at (j := 7) rfl;have qb : w.cell? ⟨b, off, none⟩ = some (.int .i64 a) := by have := hc 0 _ rfl; simpa using this
 have hgl : g < w.heap.size := h.1.2.2;have qf : ∀ o, w.frozen? ⟨g, o, none⟩ = false := h.1.2.1;have hcap := h.2.P.1;rw [hn] at hcap;have h0 : (0 : Int) < (n : Int) := by omega
 have h1 : ¬ n = 0 := by omega
 have h2 : ¬ (n : Int) = 0 := by omega
 have e0 : (n == 0) = false := by simpa using h1
 obtain ⟨TA, TN, TC, hTe⟩ : ∃ TA TN TC, (c.P.tl 1).v = .slice TA TN TC := ⟨_, _, _, rfl⟩;have hsl := fun W => bM c.P b off n hn hA oM W;rw [hTe] at hsl;have vW := aa hTe;have HA := aa hA;have Hn := aa hn;have Hl := aa hl;have HR := aa h;clear hTe hA hc hn h hl;rw [hp] at q7;clear hp hlast kV hs hf hfl hx hv hPl hPn;go_enter Tryz.func150, Tryz.ntmps150;go_wp2_with (first
  | (go_at_call 155; refine rB (iq.out _ (HR.out.below ae)) ?_; intro w1 hb1 ar aA hs1; (try simp at hs1); have hg1 := zL g w1)
  | (go_at_call 154; refine (uR.out _ (HR.out.below ae) (HS.out.below ae)).mono ?_; rintro e w2 ⟨rfl, hb2⟩; rw [hok]; obtain ⟨aH, aL, hs2⟩ := bC hb2; (try simp at hs2); have hg2 := zL g w2))
 have hBw : Below w.heap.size w w2 := ae;have oJ := HR.out.below hBw;have qh : g + 2 < w2.heap.size := oJ.2.z;have yw := ((oJ.1.store (o := 8) (by simp [bf.cs]) (.slice (some ⟨w2.heap.size, 0, none⟩) 2 2)).store (o := 7) (by simp [bf.cs]) (.int .i64 2)).below (Below.alloc (Below.refl _ _) (Nat.le_refl _) (.cells #[.int .i64 pl, .int .i64 (pl + 1)] 52));have ut := ((oJ.2.set 8 (.slice (some ⟨w2.heap.size, 0, none⟩) 2 2)).set 7 (.int .i64 2)).below (Below.alloc (Below.refl _ _) (Nat.le_refl _) (.cells #[.int .i64 pl, .int .i64 (pl + 1)] 52));have W9 := aa yw;have PT := aa ut;have VK := aa (bB.alloc (bB.setCell (bB.setCell ((bB.refl g w.heap.size w).of hBw) (p := ⟨g, 8, none⟩) (.inl rfl) (.slice (some ⟨w2.heap.size, 0, none⟩) 2 2)) (p := ⟨g, 7, none⟩) (.inl rfl) (.int .i64 2)) (by simp; exact hBw.size) (.cells #[.int .i64 pl, .int .i64 (pl + 1)] 52));clear yw ut hBw oJ;go_ret;refine ⟨rfl, ⟨some ⟨w2.heap.size, 0, none⟩, 2, [pl, pl + 1]⟩, rfl, rfl, ?_, ?_⟩
 ·exact ⟨W9.out, PT.out.P, PT.out.S, PT.out.H, SL.R.two (by go_simp) (by go_simp) qh, PT.out.A, PT.out.D, PT.out.F, PT.out.z⟩
 ·with_reducible exact VK.out
theorem BU (c : bf) (g : Nat) (a : Int) (rest : List Int) (q0 : Int × W3) (w : World) (h : c.R g w) (hl : c.P.l = a :: rest) (hp : c.part = 1) (rX : c.F.l = [q0]) (hx : q0.2.ok) (hv : aC c.T c.C c.B) (hs : ai w) (hf0 : q0.2.f = 0) :
  Calls Tryz.prog 150 #[.pointer (some ⟨g, 0, none⟩)] w fun e w' => e = .returned (.bool false) ∧ ({ c with P := c.P.tl 1, part := 0 } : bf).R g w' ∧ bB g w.heap.size w w' := by
 have hok : dB c.T c.C c.B q0.2 = false := by
  unfold dB;rw [hf0];rfl
 have hlast := fun W (hW : c.R g W) => jc c g [] q0 W hW rX sM;have kV := fun W (hW : c.R g W) (hs' : ai W) => tJ c g q0.2 W hW hv hs' (by unfold W3.ok at hx; omega) (by unfold W3.ok at hx; omega);generalize hPl : aF c.T c.C c.B (aT q0.2.f).1 = pl at *;generalize hPn : aD c.T c.C c.B (aT q0.2.f).1 = pn at *;have iq := aa hlast;have uR := aa kV;have HS := aa hs;obtain ⟨n, hn⟩ : ∃ n, c.P.l.length = n := ⟨_, rfl⟩;have hpos : 0 < n := by rw [← hn, hl]; simp
 obtain ⟨b, off, hA, hb, hbg, hc⟩ := h.2.P.at_ bI (k := 0) (a := a) (by rw [hl]; rfl);have q : w.cell? ⟨g, 3, none⟩ = some (.slice (some ⟨b, off, none⟩) n c.P.c) := by have := h.1.at (j := 3) rfl; unfold SL.v at this; rwa [hA, hn] at this
 have q7 : w.cell? ⟨g, 7, none⟩ = some (.int .i64 c.part) := h.1.at (j := 7) rfl;have qb : w.cell? ⟨b, off, none⟩ = some (.int .i64 a) := by have := hc 0 _ rfl; simpa using this
 have hgl : g < w.heap.size := h.1.2.2;have qf : ∀ o, w.frozen? ⟨g, o, none⟩ = false := h.1.2.1;have hcap := h.2.P.1;rw [hn] at hcap;have h0 : (0 : Int) < (n : Int) := by omega
 have h1 : ¬ n = 0 := by omega
 have h2 : ¬ (n : Int) = 0 := by omega
 have e0 : (n == 0) = false := by simpa using h1
 obtain ⟨TA, TN, TC, hTe⟩ : ∃ TA TN TC, (c.P.tl 1).v = .slice TA TN TC := ⟨_, _, _, rfl⟩;have hsl := fun W => bM c.P b off n hn hA oM W;rw [hTe] at hsl;have vW := aa hTe;have HA := aa hA;have Hn := aa hn;have Hl := aa hl;obtain ⟨m, hm⟩ : ∃ m, c.F.l.length = m := ⟨_, rfl⟩;have Lv : 0 < m := by rw [← hm, rX]; simp
 obtain ⟨bF, oF, Bl, Ws, LM, sF⟩ := h.2.F.at_ iG (k := 0) (a := q0) (by rw [rX]; rfl);have KY : w.cell? ⟨g, 11, none⟩ = some (.slice (some ⟨bF, oF, none⟩) m c.F.c) := by have := h.1.at (j := 11) rfl; unfold SL.v at this; rwa [Bl, hm] at this
 have r1 : w.cell? ⟨bF, oF + 1, none⟩ = some (.int .i64 q0.2.v) := by have := sF 1 _ rfl; simpa using this
 have r2 : w.cell? ⟨bF, oF + 2, none⟩ = some (.int .u32 q0.2.r) := by have := sF 2 _ rfl; simpa using this
 have r3 : w.cell? ⟨bF, oF + 3, none⟩ = some (.int .u32 q0.2.f) := by have := sF 3 _ rfl; simpa using this
 have BP : w.cell? ⟨bF, oF + 1 + 2, none⟩ = some (.int .u32 q0.2.f) := r3;have m0 : (0 : Int) < (m : Int) := by omega
 have m1 : 0 < m := Lv;have HR := aa h;clear hTe hA hc hn h hl Bl sF hm rX;rw [hp] at q7;have e3 : (q0.2.f != 0) = false := by rw [hf0]; rfl
 clear hp hlast kV hs hx hv hPl hPn hf0;go_enter Tryz.func150, Tryz.ntmps150;go_wp2_with (first
  | (go_at_call 155; refine rB (iq.out _ (HR.out.below ae)) ?_; intro w1 hb1 ar aA hs1; (try simp at hs1); have hg1 := zL g w1; have hl1 := zL bF w1)
  | (go_at_call 154; refine (uR.out _ (HR.out.below ae) (HS.out.below ae)).mono ?_; rintro e w2 ⟨rfl, hb2⟩; rw [hok]; obtain ⟨aH, aL, hs2⟩ := bC hb2; (try simp at hs2); have hg2 := zL g w2; have hl2 := zL bF w2))
 have hBw : Below w.heap.size w w2 := ae;have oJ := HR.out.below hBw;have hT := oJ.2.P.tl bI (a := a) (l := rest) Hl.out;have MC := aa ((oJ.putPv hT vW.out).putPart 0);have Bp := aa (bB.setCell (bB.setCell ((bB.refl g w.heap.size w).of hBw) (p := ⟨g, 3, none⟩) (.inl rfl) (.slice TA TN TC)) (p := ⟨g, 7, none⟩) (.inl rfl) (.int .i64 0));clear hBw oJ hT;go_ret;refine ⟨rfl, ?_, ?_⟩
 ·with_reducible exact MC.out
 ·with_reducible exact Bp.out
theorem B4 (c : bf) (g pa N : Nat) (a : Int) (rest : List Int) (q0 : Int × W3) (w : World) (h : c.R g w) (hl : c.P.l = a :: rest) (ha : a = (pa : Int)) (hp : c.part = 1) (rX : c.F.l = [q0]) (qj : c.A.l.length ≤ 1000000) (hD6 : c.D.l.length ≤ 1000000) (hv : aC c.T c.C c.B) (hs : ai w) (hN : ah c.T c.C c.B 7 = (N : Int)) (lM : 0 < N) (hP : iY c.T c.C c.B pa = true) (vI : pa < N) (Kt : ∀ q ∈ c.F.l, 0 ≤ q.1 ∧ q.1 < (N : Int) ∧ q.2.ok) (Gd : c.F.l.length ≤ 1000000) (hf0 : ¬ q0.2.f = 0) (hok : dB c.T c.C c.B q0.2 = false) :
  Calls Tryz.prog 150 #[.pointer (some ⟨g, 0, none⟩)] w fun e w' => e = .returned (.bool false) ∧ ∃ (A' : SL AS) (D' : SL Int), A'.l = c.A.l ++ [⟨3, a, 0, 0, 0, (aj c.T c.C c.B (cK N c.F.l) pa).v, (aj c.T c.C c.B (cK N c.F.l) pa).r, (aj c.T c.C c.B (cK N c.F.l) pa).f⟩] ∧ D'.l = c.D.l ++ [a] ∧ ({ c with A := A', D := D', P := c.P.tl 1, part := 0 } : bf).R g w' ∧ bB g w.heap.size w w' := by
 have hx : q0.2.ok := (Kt q0 (by rw [rX]; simp)).2.2;have hlast := fun W (hW : c.R g W) => jc c g [] q0 W hW rX sM;have kV := fun W (hW : c.R g W) (hs' : ai W) => tJ c g q0.2 W hW hv hs' (by unfold W3.ok at hx; omega) (by unfold W3.ok at hx; omega);have iO := fun W (hW : c.R g W) (hs' : ai W) => oq c g pa N W hW hv hs' hN lM hP vI Kt Gd;have hst := fun W (hW : c.R g W) => l9 c g pa (aj c.T c.C c.B (cK N c.F.l) pa) W hW qj hD6;rw [← ha] at iO hst;generalize aj c.T c.C c.B (cK N c.F.l) pa = res at iO hst ⊢;have vS := aa iO;have fV := aa hst;clear iO hst qj hD6;generalize hPl : aF c.T c.C c.B (aT q0.2.f).1 = pl at *;generalize hPn : aD c.T c.C c.B (aT q0.2.f).1 = pn at *;have iq := aa hlast;have uR := aa kV;have HS := aa hs;obtain ⟨n, hn⟩ : ∃ n, c.P.l.length = n := ⟨_, rfl⟩;have hpos : 0 < n := by rw [← hn, hl]; simp
 obtain ⟨b, off, hA, hb, hbg, hc⟩ := h.2.P.at_ bI (k := 0) (a := a) (by rw [hl]; rfl);have q : w.cell? ⟨g, 3, none⟩ = some (.slice (some ⟨b, off, none⟩) n c.P.c) := by have := h.1.at (j := 3) rfl; unfold SL.v at this; rwa [hA, hn] at this
 have q7 : w.cell? ⟨g, 7, none⟩ = some (.int .i64 c.part) := h.1.at (j := 7) rfl;have qb : w.cell? ⟨b, off, none⟩ = some (.int .i64 a) := by have := hc 0 _ rfl; simpa using this
 have hgl : g < w.heap.size := h.1.2.2;have qf : ∀ o, w.frozen? ⟨g, o, none⟩ = false := h.1.2.1;have hcap := h.2.P.1;rw [hn] at hcap;have h0 : (0 : Int) < (n : Int) := by omega
 have h1 : ¬ n = 0 := by omega
 have h2 : ¬ (n : Int) = 0 := by omega
 have e0 : (n == 0) = false := by simpa using h1
 obtain ⟨TA, TN, TC, hTe⟩ : ∃ TA TN TC, (c.P.tl 1).v = .slice TA TN TC := ⟨_, _, _, rfl⟩;have hsl := fun W => bM c.P b off n hn hA oM W;rw [hTe] at hsl;have vW := aa hTe;have HA := aa hA;have Hn := aa hn;have Hl := aa hl;obtain ⟨m, hm⟩ : ∃ m, c.F.l.length = m := ⟨_, rfl⟩;have Lv : 0 < m := by rw [← hm, rX]; simp
 obtain ⟨bF, oF, Bl, Ws, LM, sF⟩ := h.2.F.at_ iG (k := 0) (a := q0) (by rw [rX]; rfl);have KY : w.cell? ⟨g, 11, none⟩ = some (.slice (some ⟨bF, oF, none⟩) m c.F.c) := by have := h.1.at (j := 11) rfl; unfold SL.v at this; rwa [Bl, hm] at this
 have r1 : w.cell? ⟨bF, oF + 1, none⟩ = some (.int .i64 q0.2.v) := by have := sF 1 _ rfl; simpa using this
 have r2 : w.cell? ⟨bF, oF + 2, none⟩ = some (.int .u32 q0.2.r) := by have := sF 2 _ rfl; simpa using this
 have r3 : w.cell? ⟨bF, oF + 3, none⟩ = some (.int .u32 q0.2.f) := by have := sF 3 _ rfl; simpa using this
 have BP : w.cell? ⟨bF, oF + 1 + 2, none⟩ = some (.int .u32 q0.2.f) := r3;have m0 : (0 : Int) < (m : Int) := by omega
 have m1 : 0 < m := Lv;have HR := aa h;clear hTe hA hc hn h hl Bl sF hm rX;rw [hp] at q7;have e3 : (q0.2.f != 0) = true := by simpa using hf0
 clear hp hlast kV hs hx hv hPl hPn hf0 ha Kt Gd hN hP;go_enter Tryz.func150, Tryz.ntmps150;go_wp2_with (first
  | (go_at_call 155; refine rB (iq.out _ (HR.out.below ae)) ?_; intro w1 hb1 ar aA hs1; (try simp at hs1); have hg1 := zL g w1; have hl1 := zL bF w1)
  | (go_at_call 154; refine (uR.out _ (HR.out.below ae) (HS.out.below ae)).mono ?_; rintro e w2 ⟨rfl, hb2⟩; rw [hok]; obtain ⟨aH, aL, hs2⟩ := bC hb2; (try simp at hs2); have hg2 := zL g w2; have hl2 := zL bF w2)
  | (go_at_call 157; refine rB (vS.out _ (HR.out.below ae) (HS.out.below ae)) ?_; intro w3 hb3 cN cH hs3; (try simp at hs3); have hg3 := zL g w3)
  | (go_at_call 156; refine (fV.out _ (HR.out.below ae)).mono ?_; rintro e w4 ⟨A', D', rfl, yx, hD4, dY, hB4⟩; have hBw : Below w.heap.size w w3 := ae; have kY := (bB.refl g w.heap.size w).of hBw; have jF := kY.trans (hB4.mono hBw.size); have hs4 := jF.size; have qf4 := dY.1.2.1; have hg4 : g < w4.heap.size := dY.1.2.2; have q4 : w4.cell? ⟨g, 3, none⟩ = some (.slice (some ⟨b, off, none⟩) n c.P.c) := (by have h := dY.1.at (j := 3) rfl; unfold SL.v at h; rwa [HA.out, Hn.out] at h); have NK : ∃ u, w4.cell? ⟨g, 7, none⟩ = some u := ⟨_, dY.1.at (j := 7) rfl⟩; obtain ⟨u47, NK⟩ := NK; have iI := aa dY; have jr := aa jF; have Kf := aa yx; have Kd := aa hD4; clear dY hB4 jF kY hBw yx hD4))
 have hT := iI.out.2.P.tl bI (a := a) (l := rest) Hl.out;have MC := aa ((iI.out.putPv hT vW.out).putPart 0);have Bp := aa (bB.setCell (bB.setCell jr.out (p := ⟨g, 3, none⟩) (.inl rfl) (.slice TA TN TC)) (p := ⟨g, 7, none⟩) (.inl rfl) (.int .i64 0));clear hT;go_ret;refine ⟨rfl, A', D', Kf.out, Kd.out, ?_, ?_⟩
 ·with_reducible exact MC.out
 ·with_reducible exact Bp.out
theorem BW (c : bf) (g pa N : Nat) (a : Int) (rest : List Int) (q0 : Int × W3) (w : World) (h : c.R g w) (hl : c.P.l = a :: rest) (ha : a = (pa : Int)) (hp : c.part = 3) (r : List (Int × W3)) (rX : c.F.l = q0 :: r) (qj : c.A.l.length ≤ 1000000) (hD6 : c.D.l.length ≤ 1000000) (hv : aC c.T c.C c.B) (hs : ai w) (hN : ah c.T c.C c.B 7 = (N : Int)) (lM : 0 < N) (hP : iY c.T c.C c.B pa = true) (vI : pa < N) (Kt : ∀ q ∈ c.F.l, 0 ≤ q.1 ∧ q.1 < (N : Int) ∧ q.2.ok) (Gd : c.F.l.length ≤ 1000000) (hf0 : ¬ q0.2.f = 0) :
  Calls Tryz.prog 150 #[.pointer (some ⟨g, 0, none⟩)] w fun e w' => e = .returned (.bool false) ∧ ∃ (A' : SL AS) (D' : SL Int), A'.l = c.A.l ++ [⟨3, a, 0, 0, 0, (aj c.T c.C c.B (cK N c.F.l) pa).v, (aj c.T c.C c.B (cK N c.F.l) pa).r, (aj c.T c.C c.B (cK N c.F.l) pa).f⟩] ∧ D'.l = c.D.l ++ [a] ∧ ({ c with A := A', D := D', P := c.P.tl 1, part := 0 } : bf).R g w' ∧ bB g w.heap.size w w' := by
 have iO := fun W (hW : c.R g W) (hs' : ai W) => oq c g pa N W hW hv hs' hN lM hP vI Kt Gd;have hst := fun W (hW : c.R g W) => l9 c g pa (aj c.T c.C c.B (cK N c.F.l) pa) W hW qj hD6;rw [← ha] at iO hst;generalize aj c.T c.C c.B (cK N c.F.l) pa = res at iO hst ⊢;have vS := aa iO;have fV := aa hst;clear iO hst qj hD6;have HS := aa hs;obtain ⟨n, hn⟩ : ∃ n, c.P.l.length = n := ⟨_, rfl⟩;have hpos : 0 < n := by rw [← hn, hl]; simp
 obtain ⟨b, off, hA, hb, hbg, hc⟩ := h.2.P.at_ bI (k := 0) (a := a) (by rw [hl]; rfl);have q : w.cell? ⟨g, 3, none⟩ = some (.slice (some ⟨b, off, none⟩) n c.P.c) := by have := h.1.at (j := 3) rfl; unfold SL.v at this; rwa [hA, hn] at this
 have q7 : w.cell? ⟨g, 7, none⟩ = some (.int .i64 c.part) := h.1.at (j := 7) rfl;have qb : w.cell? ⟨b, off, none⟩ = some (.int .i64 a) := by have := hc 0 _ rfl; simpa using this
 have hgl : g < w.heap.size := h.1.2.2;have qf : ∀ o, w.frozen? ⟨g, o, none⟩ = false := h.1.2.1;have hcap := h.2.P.1;rw [hn] at hcap;have h0 : (0 : Int) < (n : Int) := by omega
 have h1 : ¬ n = 0 := by omega
 have h2 : ¬ (n : Int) = 0 := by omega
 have e0 : (n == 0) = false := by simpa using h1
 obtain ⟨TA, TN, TC, hTe⟩ : ∃ TA TN TC, (c.P.tl 1).v = .slice TA TN TC := ⟨_, _, _, rfl⟩;have hsl := fun W => bM c.P b off n hn hA oM W;rw [hTe] at hsl;have vW := aa hTe;have HA := aa hA;have Hn := aa hn;have Hl := aa hl;obtain ⟨m, hm⟩ : ∃ m, c.F.l.length = m := ⟨_, rfl⟩;have Lv : 0 < m := by rw [← hm, rX]; simp
 obtain ⟨bF, oF, Bl, Ws, LM, sF⟩ := h.2.F.at_ iG (k := 0) (a := q0) (by rw [rX]; rfl);have KY : w.cell? ⟨g, 11, none⟩ = some (.slice (some ⟨bF, oF, none⟩) m c.F.c) := by have := h.1.at (j := 11) rfl; unfold SL.v at this; rwa [Bl, hm] at this
 have r1 : w.cell? ⟨bF, oF + 1, none⟩ = some (.int .i64 q0.2.v) := by have := sF 1 _ rfl; simpa using this
 have r2 : w.cell? ⟨bF, oF + 2, none⟩ = some (.int .u32 q0.2.r) := by have := sF 2 _ rfl; simpa using this
 have r3 : w.cell? ⟨bF, oF + 3, none⟩ = some (.int .u32 q0.2.f) := by have := sF 3 _ rfl; simpa using this
 have BP : w.cell? ⟨bF, oF + 1 + 2, none⟩ = some (.int .u32 q0.2.f) := r3;have m0 : (0 : Int) < (m : Int) := by omega
 have m1 : 0 < m := Lv;have HR := aa h;clear hTe hA hc hn h hl Bl sF hm rX;rw [hp] at q7;have e3 : (q0.2.f != 0) = true := by simpa using hf0
 clear hp hs hv hf0 ha Kt Gd hN hP;go_enter Tryz.func150, Tryz.ntmps150;go_wp2_with (first
  | (go_at_call 157; refine rB (vS.out _ (HR.out.below ae) (HS.out.below ae)) ?_; intro w3 hb3 cN cH hs3; (try simp at hs3); have hg3 := zL g w3)
  | (go_at_call 156; refine (fV.out _ (HR.out.below ae)).mono ?_; rintro e w4 ⟨A', D', rfl, yx, hD4, dY, hB4⟩; have hBw : Below w.heap.size w w3 := ae; have kY := (bB.refl g w.heap.size w).of hBw; have jF := kY.trans (hB4.mono hBw.size); have hs4 := jF.size; have qf4 := dY.1.2.1; have hg4 : g < w4.heap.size := dY.1.2.2; have q4 : w4.cell? ⟨g, 3, none⟩ = some (.slice (some ⟨b, off, none⟩) n c.P.c) := (by have h := dY.1.at (j := 3) rfl; unfold SL.v at h; rwa [HA.out, Hn.out] at h); have NK : ∃ u, w4.cell? ⟨g, 7, none⟩ = some u := ⟨_, dY.1.at (j := 7) rfl⟩; obtain ⟨u47, NK⟩ := NK; have iI := aa dY; have jr := aa jF; have Kf := aa yx; have Kd := aa hD4; clear dY hB4 jF kY hBw yx hD4))
 have hT := iI.out.2.P.tl bI (a := a) (l := rest) Hl.out;have MC := aa ((iI.out.putPv hT vW.out).putPart 0);have Bp := aa (bB.setCell (bB.setCell jr.out (p := ⟨g, 3, none⟩) (.inl rfl) (.slice TA TN TC)) (p := ⟨g, 7, none⟩) (.inl rfl) (.int .i64 0));clear hT;go_ret;refine ⟨rfl, A', D', Kf.out, Kd.out, ?_, ?_⟩
 ·with_reducible exact MC.out
 ·with_reducible exact Bp.out
end Go.Proofs.YtapjfhbonfehpaaGreatDoor
