/- Package desc: Read. -/
import Derived.Deep.DeepCutAuto
import Derived.Test.YtapjfhbonfehpaaGreatDoorV17
import Derived.Test.YtapjfhbonfehpaaGreatDoorV18
import Derived.Test.YtapjfhbonfehpaaGreatDoorV65
import Derived.Test.YtapjfhbonfehpaaGreatDoorV64
set_option linter.unusedSimpArgs false
set_option linter.unusedVariables false
set_option maxRecDepth 100000
set_option maxHeartbeats 40000000
namespace Go.Proofs.YtapjfhbonfehpaaGreatDoor
open Go.RowKit
theorem GM (T C B who : Int) (b n cap : Nat) (ws : List W3) (w : World) (hv : aC T C B) (hs : ai w) (h0 : -1000 ≤ who) (h1 : who ≤ 1000) (hM : Mem b ws w) (hl : ws.length = n) (hnm : n ≤ 1000000) (hcap : n ≤ cap) (hok : ∀ x ∈ ws, x.ok) (hn : ah T C B 7 ≤ n) :
  Calls Tryz.prog 46 #[(.agg #[.int .i64 T, .int .i64 C, .int .i64 B]), .slice (some ⟨b, 0, none⟩) n cap, .int .i64 who] w fun e w' => mO who (gK T C B ws who) w e w' := by
 by_cases hN : aD T C B who = 0
 ·unfold gK;rw [if_pos hN];refine (NG T C B who _ b n cap ws w hv hs h0 h1 hM hl hn rfl hN).mono ?_;rintro e w' ⟨rfl, hb⟩;exact ⟨3, by decide, rfl, hb⟩
 ·obtain ⟨p, hP, hpn, yS, hN1⟩ := kv T C B who hv hN;have hP' : (aF T C B who).toNat = p := by rw [hP]; exact Int.toNat_natCast p
  unfold gK;rw [if_neg hN, hP'];have hx := kC (ws := ws) (k := p) oM;have hy := kC (ws := ws) (k := p + 1) oM;cases hf : mF (ws.getD p z3) (ws.getD (p + 1) z3) (aD T C B who) with
  | true =>
   rw [if_pos rfl];exact Ez T C B who _ b n cap p _ _ ws w hv hs h0 h1 hM hl hnm hcap hok hn hP rfl (by simpa using hN) hN1 yS oM hx hy hf
  | false =>
   rw [if_neg sM];exact GL T C B who _ b n cap p _ _ ws w hv hs h0 h1 hM hl hnm hok hn hP rfl (by simpa using hN) hN1 yS oM hx hy hf
theorem qC (T C B who : Int) : aD T C B who ≤ 32 := by
 unfold aD;split
 ·decide
 ·split <;> decide
theorem EA {T C B who sq st : Int} {ws : List W3} {es : List En} (h : gK T C B ws who = some (sq, st, es)) : es.length ≤ 32 := by
 unfold gK at h;split at h
 ·cases h
 ·split at h
  ·rename_i hh;unfold mF at hh;simp only [Bool.and_eq_true, decide_eq_true_eq] at hh;have h32 := qC T C B who;cases he : dQ ws (aF T C B who).toNat (ws.getD ((aF T C B who).toNat + 1) z3).v.toNat with
   | none => rw [he] at h; cases h
   | some es' =>
    rw [he] at h;simp only [] at h;split at h
    ·injection h with h
     injection h with _ h
     injection h with _ h
     subst h;have := qW he;omega
    ·cases h
  ·cases h
def dV (x : W3) : W3 := ⟨x.v, x.r, 0⟩
def sL (n : Int) : Int := (n + 1) % 4294967296
def aj (T C B : Int) (ws : List W3) (p : Nat) : W3 :=
 let x := ws.getD p z3
 if (aT x.f).1 = 0 then dV x
 else match gK T C B ws (aT x.f).1 with
  | none => dV x
  | some (seq, st, es) => if seq = (aT x.f).2 ∧ st = 1 then
    match es.find? (fun y => y.a == (p : Int) && y.w) with
    | none => dV x
    | some y => ⟨y.n, sL x.r, 0⟩
   else dV x
theorem ua {T C B a : Int} (hv : aC T C B) (h : iY T C B a = true) : 0 ≤ a ∧ a < ah T C B 4 ∧ a < ah T C B 7 := by
 have h2 := fC T C B hv.1 2;have hf := hv.1;obtain ⟨f1, f2, f3, f4, f5, f6⟩ := hf;have e4 : ah T C B 4 = ah T C B 3 + (C + 7) / 8 * 8 := rfl;have e7 := (qT T C B).1;have hx : (if 0 < B then (8 : Int) else 0) ≥ 0 := by split <;> omega
 unfold iY at h;simp only [Bool.or_eq_true, Bool.and_eq_true, decide_eq_true_eq] at h;have e3 : ah T C B 3 = ah T C B 2 + 8 * T := rfl;omega
def yJ (x : W3) (er : Int) (w : World) (e : Ending) (w' : World) : Prop := e = .returned (.tuple #[.agg #[.int .i64 x.v, .int .u32 x.r, .int .u32 x.f], .int .i64 er]) ∧ Below w.heap.size w w'
theorem mz (T C B : Int) (b n cap p : Nat) (x : W3) (who seq : Int) (ws : List W3) (w : World) (hv : aC T C B) (hs : ai w) (hM : Mem b ws w) (hl : ws.length = n) (hnm : n ≤ 1000000) (hcap : n ≤ cap) (hok : ∀ x ∈ ws, x.ok) (hn : ah T C B 7 ≤ n)
  (hP : iY T C B p = true) (hx : ws[p]? = some x) (hw : aT x.f = (who, seq)) :
  Calls Tryz.prog 22 #[(.agg #[.int .i64 T, .int .i64 C, .int .i64 B]), .slice (some ⟨b, 0, none⟩) n cap, .int .i64 p] w (yJ (aj T C B ws p) 0 w) := by
 have hpos := hs.pos;have hb := hM.2.2;have HP := aa hP;have HW := aa hw;have HM := aa hM;have hx0 : ws.getD p z3 = x := by rw [List.getD_eq_getElem?_getD, hx]; rfl
 have iO : aj T C B ws p = if who = 0 then dV x else match gK T C B ws who with
  | none => dV x
  | some (sq, st, es) => if sq = seq ∧ st = 1 then
    match es.find? (fun y => y.a == (p : Int) && y.w) with
    | none => dV x
    | some y => ⟨y.n, sL x.r, 0⟩
   else dV x := by unfold aj; simp only [hx0, hw]; try rfl
 have Iy := hok x (List.mem_of_getElem? hx);obtain ⟨-, -, hx2, hx3, hx4, hx5⟩ := Iy;have hwb : 0 ≤ who ∧ who ≤ 72 := by
  unfold aT at hw;split at hw
  ·injection hw with h _; omega
  ·injection hw with h _; omega
 obtain ⟨adX, adW⟩ := hwb;obtain ⟨R, hR⟩ : ∃ R, R = aj T C B ws p := ⟨_, rfl⟩;rw [← hR];rw [← hR] at iO;have vS := aa iO;have hpn : p < n := by rw [← hl]; exact (List.getElem?_eq_some_iff.1 hx).1
 have h0 : (-1000000 : Int) ≤ (p : Int) := by omega
 have h1 : (p : Int) ≤ 1000000 := by omega
 have hk0 : (0 : Int) ≤ (p : Int) := by omega
 have hk1 : (p : Int) < (n : Int) := by omega
 have s0 := hM.w0 hx;have s1 := hM.w1 hx;have s2 := hM.w2 hx;have nh := fun (W : World) (hs' : ai W) (yv : Mem b ws W) => GM T C B who b n cap ws W hv hs' oM oM yv hl hnm hcap hok hn;have C9 := aa nh;have hnn : ¬ ((n : Int) < ah T C B 7) := by omega
 have hb' : b < w.heap.size + 1 := by omega
 have OU : b < w.heap.size + 1 + 1 := by omega
 clear hP hw hM hx hx0 iO hR nh hok hl;go_enter Tryz.func22, Tryz.ntmps22;go_upto_region 8 with (first
  | (go_at_call 18; refine rB (cZ T C B _ hv (hs.below ae)) ?_; intro w1 hb1 ar aA hs1; (try simp at hs1); have hz1 := zL w.heap.size w1; have hy1 := zL (w.heap.size + 1) w1; have hq1 := zL 0 w1; have hv1 := zL b w1)
  | (go_at_call 19; refine rB (fM T C B _ hv (hs.below ae)) ?_; intro w2 hb2 aH aL hs2; (try simp at hs2); have hz2 := zL w.heap.size w2; have hy2 := zL (w.heap.size + 1) w2; have hq2 := zL 0 w2; have hv2 := zL b w2)
  | (go_at_call 44; refine (tZ T C B _ _ hv (hs.below ae) h0 h1).mono ?_; rintro e w3 ⟨rfl, hb3⟩; rw [HP.out]; obtain ⟨cN, cH, hs3⟩ := bC hb3; (try simp at hs3); have hz3 := zL w.heap.size w3; have nN := zL (w.heap.size + 1) w3; have hq3 := zL 0 w3; have hv3 := zL b w3)
  | (go_at_call 45; refine (sj x.f _ hx4 hx5).mono ?_; rintro e w4 ⟨rfl, rfl⟩; rw [HW.out]))
 have r0 := cI w3 (w.heap.size + 1) 0 0;have r1 := cE w3 (w.heap.size + 1) 1 (.int .u32 0);have r2 := cE w3 (w.heap.size + 1) 2 (.int .u32 0);have e0 := cI w3 w.heap.size 0 T;have e1 := cI w3 w.heap.size 1 C;have e2 := cI w3 w.heap.size 2 B;have p0 : ∀ o, w3.frozen? ⟨w.heap.size + 1, o, none⟩ = false := fun o => by
  rw [cH _ _ oM, aL _ _ oM, aA _ _ sM];exact World.frozen?_alloc_at _ _ _ _ sM
 have hB3 : Below w.heap.size w w3 := ae;have Dc := aa (HM.out.grow hB3);have E8 := hs.below hB3;have HS := aa E8;clear ar aA aH aL cN cH hb1 hb2 hb3 s0 s1 s2 E8;by_cases hw0 : who = 0
 ·subst hw0;have i6 : R = dV x := by rw [vS.out]; rfl
  have vT := aa i6;clear i6;go_wp2_with fail;have hn1 : w.heap.size + 1 < w3.heap.size + 1 := by omega
  exact bodyPost_ret (v := .tuple #[.agg #[.int .i64 x.v, .int .u32 x.r, .int .u32 0], .int .i64 0]) (by simp [results, Tryz.results22, go_sem, r0, r1, r2, nN, hn1]) rfl (by rw [vT.out]; exact ⟨rfl, ae⟩)
 have Oi : (who == 0) = false := by simpa using hw0
 have HR := vS.out;rw [if_neg hw0] at HR;have Nu := aa HR;clear HR vS hw0;cases hrL : gK T C B ws who with
 | none =>
  have i6 : R = dV x := by rw [Nu.out, hrL]
  have vT := aa i6;clear i6;have QG := aa hrL;clear hrL;go_wp2_with (first
   | (go_at_call 46; refine (C9.out _ (HS.out.below ae) (Dc.out.grow ae)).mono ?_; rw [QG.out]; rintro e w5 ⟨er, her, rfl, hb5⟩; obtain ⟨bX, cw, hs5⟩ := bC hb5; (try simp at hs5); have lF := zL w.heap.size w5; have wW := zL (w.heap.size + 1) w5; have E6 := zL (w3.heap.size + 1) w5; have aeA : (er != 0) = true := (by simpa using her)))
  have t0 := cI w5 (w.heap.size + 1) 0 0;have t1 := cE w5 (w.heap.size + 1) 1 (.int .u32 0);have t2 := cE w5 (w.heap.size + 1) 2 (.int .u32 0);exact bodyPost_ret (v := .tuple #[.agg #[.int .i64 x.v, .int .u32 x.r, .int .u32 0], .int .i64 0]) (by simp [results, Tryz.results22, go_sem, t0, t1, t2, wW]) rfl (by rw [vT.out]; exact ⟨rfl, ae⟩)
 | some r =>
  obtain ⟨sq, st, es⟩ := r;have i6 : R = if sq = seq ∧ st = 1 then
    match es.find? (fun y => y.a == (p : Int) && y.w) with
    | none => dV x
    | some y => ⟨y.n, sL x.r, 0⟩
   else dV x := by rw [Nu.out, hrL]
  have vT := aa i6;clear i6;have QG := aa hrL;clear hrL;by_cases hq1 : sq = seq
  ·by_cases hq2 : st = 1
   ·subst hq1 hq2;have i6 : R = match es.find? (fun y => y.a == (p : Int) && y.w) with
     | none => dV x
     | some y => ⟨y.n, sL x.r, 0⟩ := by rw [vT.out, if_pos ⟨rfl, rfl⟩]
    have F3 := aa i6;have hqa : (sq != sq) = false := (by simp);have acQ := EA QG.out;clear i6 vT;go_wp2_with (first
     | (go_at_call 46; refine (C9.out _ (HS.out.below ae) (Dc.out.grow ae)).mono ?_; rw [QG.out]; rintro e w5 ⟨A, cp, rfl, hA, hcp, hb5⟩; obtain ⟨bX, cw, hs5⟩ := bC hb5; (try simp at hs5); have lF := zL w.heap.size w5; have wW := zL (w.heap.size + 1) w5; have E6 := zL (w3.heap.size + 1) w5))
    have t0 := cI w5 (w.heap.size + 1) 0 0;have t1 := cE w5 (w.heap.size + 1) 1 (.int .u32 0);have t2 := cE w5 (w.heap.size + 1) 2 (.int .u32 0);have x8v := cI w5 w3.heap.size 0 x.v;have x8r := cE w5 w3.heap.size 1 (.int .u32 x.r);have x8f := cE w5 w3.heap.size 2 (.int .u32 x.f);have QP := cI w5 (w3.heap.size + 1) 0 x.v;have QQ := cE w5 (w3.heap.size + 1) 1 (.int .u32 x.r);have QR := cE w5 (w3.heap.size + 1) 2 (.int .u32 0);have p5 : ∀ o, w5.frozen? ⟨w.heap.size + 1, o, none⟩ = false := fun o => (by rw [cw _ _ (by simp; omega)]; go_simp);have rJ : Below w.heap.size w w5 := by
     have h1 : Below w3.heap.size w3 w5 := ae;exact hB3.trans (h1.mono hB3.size)
    have HA := aa hA;have Hcp := aa hcp;clear bX cw hb5 r0 r1 r2 e0 e1 e2 p0 hA hcp
    go_loopw [76] (fun i wr => ∃ k : Nat, i = .int .i64 k ∧ k ≤ es.length ∧ (es.take k).find? (fun y => y.a == (p : Int) && y.w) = none ∧ Below w5.heap.size w5 wr) (fun i _ => es.length - (intOf i).toNat)
    case atStart => exact ⟨0, rfl, by omega, rfl, ae⟩
    case round =>
     obtain ⟨k, rfl, hk, hno, hB⟩ := hrel;have hsz := hB.size;have hbc : ∀ x o, x < w5.heap.size → wr.cell? ⟨x, o, none⟩ = w5.cell? ⟨x, o, none⟩ := fun x o hx => hB.cell (p := ⟨x, o, none⟩) hx;have u0 := (hbc _ 0 wW).trans t0;have u1 := (hbc _ 1 wW).trans t1;have u2 := (hbc _ 2 wW).trans t2;have y8v := (hbc _ 0 (show w3.heap.size < w5.heap.size by omega)).trans x8v;have y8r := (hbc _ 1 (show w3.heap.size < w5.heap.size by omega)).trans x8r;have y8f := (hbc _ 2 (show w3.heap.size < w5.heap.size by omega)).trans x8f;have adc := (hbc _ 0 E6).trans QP;have ade := (hbc _ 1 E6).trans QQ;have adf := (hbc _ 2 E6).trans QR;have pr : ∀ o, wr.frozen? ⟨w.heap.size + 1, o, none⟩ = false := fT hB p5 wW;have rR := zL (w.heap.size + 1) wr;have rO := zL (w3.heap.size + 1) wr;have hqr := zL w3.heap.size wr;have hBr : Below w.heap.size w wr := rJ.trans (hB.mono rJ.size);clear hbc t0 t1 t2 x8v x8r x8f QP QQ QR p5;by_cases hlt : k < es.length
     ·have hz1 : es[k]? = some (es[k]'hlt) := List.getElem?_eq_getElem _;obtain ⟨b2, off, rfl, Fl, hcA⟩ := HA.out.elem (fun _ => rfl) hlt hz1;obtain ⟨e, he⟩ : ∃ e, e = es[k]'hlt := ⟨_, rfl⟩;rw [← he] at hcA hz1;have hbw : ∀ j u, (ec e)[j]? = some u → wr.cell? ⟨b2, off + k * 6 + j, none⟩ = some u := fun j u hu => (hB.cell (p := ⟨b2, off + k * 6 + j, none⟩) Fl).trans (hcA j u hu);have l0 : wr.cell? ⟨b2, off + k * 6, none⟩ = some (.int .i64 e.a) := hbw 0 _ rfl;have l1 : wr.cell? ⟨b2, off + k * 6 + 1, none⟩ = some (.int .i64 e.o.v) := hbw 1 _ rfl;have l2 : wr.cell? ⟨b2, off + k * 6 + 2, none⟩ = some (.int .u32 e.o.r) := hbw 2 _ rfl;have l3 : wr.cell? ⟨b2, off + k * 6 + 3, none⟩ = some (.int .u32 e.o.f) := hbw 3 _ rfl;have l4 : wr.cell? ⟨b2, off + k * 6 + 4, none⟩ = some (.int .i64 e.n) := hbw 4 _ rfl;have l5 : wr.cell? ⟨b2, off + k * 6 + 5, none⟩ = some (.bool e.w) := hbw 5 _ rfl;have hki : (0 : Int) ≤ (k : Int) := (by omega);have hkj : (k : Int) < (es.length : Int) := (by omega);have hes : es = es.take k ++ e :: es.drop (k + 1) := by
       rw [he, ← List.drop_eq_getElem_cons hlt, List.take_append_drop]
      have htk : es.take (k + 1) = es.take k ++ [e] := (by rw [List.take_add_one, hz1]; rfl);have WQ := aa hes;have Kw := aa htk;have PP := aa hno;clear hcA hbw he hz1 hes htk hno;cases ha1 : (e.a == (p : Int)) with
      | true =>
       cases ha2 : e.w with
       | true =>
        have i6 : R = ⟨e.n, sL x.r, 0⟩ := by
         have hf : es.find? (fun y => y.a == (p : Int) && y.w) = some e := by
          rw [WQ.out, List.find?_append, PP.out];simp [ha1, ha2]
         rw [F3.out, hf]
        have vT := aa i6;clear i6;go_wp2_with fail;exact bodyPost_ret (v := .tuple #[.agg #[.int .i64 e.n, .int .u32 (sL x.r), .int .u32 0], .int .i64 0]) (by simp [results, Tryz.results22, go_sem, u0, u1, u2, rR, sL]) rfl (by rw [vT.out]; exact ⟨rfl, ae⟩)
       | false =>
        have hst : (es.take (k + 1)).find? (fun y => y.a == (p : Int) && y.w) = none := by
         rw [Kw.out, List.find?_append, PP.out];simp [ha2]
        have fV := aa hst;clear hst;go_wp2_with fail;exact ⟨⟨k + 1, by go_num, by omega, fV.out, ae⟩, by simp [intOf]; omega⟩
      | false =>
       have hst : (es.take (k + 1)).find? (fun y => y.a == (p : Int) && y.w) = none := by
        rw [Kw.out, List.find?_append, PP.out];simp [ha1]
       have fV := aa hst;clear hst;go_wp2_with fail;exact ⟨⟨k + 1, by go_num, by omega, fV.out, ae⟩, by simp [intOf]; omega⟩
     ·obtain rfl : es.length = k := (by omega);have i6 : R = dV x := by
       rw [List.take_length] at hno;rw [F3.out, hno]
      have vT := aa i6;clear i6 hno;go_wp2_with fail;exact bodyPost_ret (v := .tuple #[.agg #[.int .i64 x.v, .int .u32 x.r, .int .u32 0], .int .i64 0]) (by simp [results, Tryz.results22, go_sem, u0, u1, u2, rR]) rfl (by rw [vT.out]; exact ⟨rfl, ae⟩)
   ·have hqb : (st != 1) = true := (by simpa using hq2);have hqa : (sq != seq) = false := (by simpa using hq1);have i6 : R = dV x := (by rw [vT.out, if_neg (fun h => hq2 h.2)]);have F3 := aa i6;clear i6 vT hq2 hq1;go_wp2_with (first
     | (go_at_call 46; refine (C9.out _ (HS.out.below ae) (Dc.out.grow ae)).mono ?_; rw [QG.out]; rintro e w5 ⟨A, cp, rfl, hA, hcp, hb5⟩; obtain ⟨bX, cw, hs5⟩ := bC hb5; (try simp at hs5); have lF := zL w.heap.size w5; have wW := zL (w.heap.size + 1) w5; have E6 := zL (w3.heap.size + 1) w5))
    have t0 := cI w5 (w.heap.size + 1) 0 0;have t1 := cE w5 (w.heap.size + 1) 1 (.int .u32 0);have t2 := cE w5 (w.heap.size + 1) 2 (.int .u32 0);exact bodyPost_ret (v := .tuple #[.agg #[.int .i64 x.v, .int .u32 x.r, .int .u32 0], .int .i64 0]) (by simp [results, Tryz.results22, go_sem, t0, t1, t2, wW]) rfl (by rw [F3.out]; exact ⟨rfl, ae⟩)
  ·have hqa : (sq != seq) = true := by simpa using hq1
   have i6 : R = dV x := by rw [vT.out, if_neg (fun h => hq1 h.1)]
   have F3 := aa i6;clear i6 vT hq1;go_wp2_with (first
    | (go_at_call 46; refine (C9.out _ (HS.out.below ae) (Dc.out.grow ae)).mono ?_; rw [QG.out]; rintro e w5 ⟨A, cp, rfl, hA, hcp, hb5⟩; obtain ⟨bX, cw, hs5⟩ := bC hb5; (try simp at hs5); have lF := zL w.heap.size w5; have wW := zL (w.heap.size + 1) w5; have E6 := zL (w3.heap.size + 1) w5))
   have t0 := cI w5 (w.heap.size + 1) 0 0;have t1 := cE w5 (w.heap.size + 1) 1 (.int .u32 0);have t2 := cE w5 (w.heap.size + 1) 2 (.int .u32 0);exact bodyPost_ret (v := .tuple #[.agg #[.int .i64 x.v, .int .u32 x.r, .int .u32 0], .int .i64 0]) (by simp [results, Tryz.results22, go_sem, t0, t1, t2, wW]) rfl (by rw [F3.out]; exact ⟨rfl, ae⟩)
end Go.Proofs.YtapjfhbonfehpaaGreatDoor
