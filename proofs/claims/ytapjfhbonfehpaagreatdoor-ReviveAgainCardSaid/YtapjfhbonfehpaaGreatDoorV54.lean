/- Package line and machine: Crash. -/
import Derived.Test.YtapjfhbonfehpaaGreatDoorV50
import Derived.Test.YtapjfhbonfehpaaGreatDoorV18
import Derived.Test.YtapjfhbonfehpaaGreatDoorV47
set_option linter.unusedSimpArgs false
set_option linter.unusedVariables false
set_option maxRecDepth 100000
set_option maxHeartbeats 40000000
namespace Go.Proofs.YtapjfhbonfehpaaGreatDoor
open Go.RowKit Go.Maps
def rN (o : List W3) (p : Int × W3) : List W3 := o.set p.1.toNat p.2
def pp (ch : Int) (n : Nat) (g : eQ) : Nat := (g.kept + Ca ch n ((g.l.length : Int) - g.kept)).toNat
def fY (ch : Int) (first : List W3) (logs : List eQ) (k : Nat) : List W3 := (((logs.take k).mapIdx (fun n g => g.l.take (pp ch n g))).flatten).foldl rN first
theorem tL : ∀ (l : List (Int × W3)) (o : List W3), (l.foldl rN o).length = o.length
 | [], _ => rfl
 | p :: l, o => by rw [List.foldl_cons, tL l]; unfold rN; rw [List.length_set]
theorem oD (ch : Int) (first : List W3) (logs : List eQ) (k : Nat) : (fY ch first logs k).length = first.length := tL _ _
theorem zU {ch : Int} {first : List W3} {logs : List eQ} {k : Nat} {g : eQ} (h : logs[k]? = some g) : fY ch first logs (k + 1) = (g.l.take (pp ch k g)).foldl rN (fY ch first logs k) := by
 have hk := (List.getElem?_eq_some_iff.1 h).1;unfold fY;rw [List.take_add_one, h, List.mapIdx_append, List.flatten_append, List.foldl_append, List.length_take, Nat.min_eq_left (Nat.le_of_lt hk)];simp only [Option.toList, List.mapIdx_cons, List.mapIdx_nil, List.flatten_cons, List.flatten_nil, List.append_nil, Nat.zero_add]
theorem Gt {l : List (Int × W3)} {j : Nat} {p : Int × W3} {o : List W3} (h : l[j]? = some p) : (l.take (j + 1)).foldl rN o = rN ((l.take j).foldl rN o) p := by
 rw [List.take_add_one, h, List.foldl_append];rfl
theorem tY {w : World} {base n cap g : Nat} {e : TypeId} {ws : List W3} (h : w.ownsRow base e 3 (.slice (some ⟨g, 0, none⟩) n cap) n (ws.flatMap ig)) (hg : g < w.heap.size) : Mem g ws w := by
 obtain ⟨h1, h2⟩ := fQ h;refine ⟨fun i x hx => ⟨h1 _ _ ?_, h1 _ _ ?_, h1 _ _ ?_⟩, h2, hg⟩
 ·exact np ws hx 0 dM
 ·exact np ws hx 1 dM
 ·exact np ws hx 2 dM
theorem lX (A : Option Addr) (n c k : Nat) (hk : k ≤ c) (W : World) : (Instr.slice 180 (.slice A n c) none (some (.int .i64 (k : Int))) none).run Tryz.prog W = .ok (.slice A k c) W := by
 have hs : (sizeOf (Tryz.prog.elem 180)).run Tryz.prog W = .ok 4 W := by kernel_rfl
 rw [run_slice_h W 180 _ _ _ kR .i64 _ oM oM, hs];simp only [Result.andThen, sliced, Int.toNat_natCast, Nat.zero_mul, Nat.sub_zero];have e : (if c = 0 then A else A.map (fun a => a.add 0)) = A := by
  split
  ·rfl
  ·cases A <;> simp [Addr.add]
 rw [e]
theorem qw (A : Option Addr) (n c k : Nat) (hk : k ≤ c) (W : World) : (Instr.sliceAt 180 (.slice A n c) none (some (.int .i64 (k : Int))) none).run Tryz.prog W = .ok (.slice A k c) W := by
 rw [run_sliceAt_slice W 180 _ _ _ _ kR];exact lX A n c k hk W
def A8 (m : aO) (ch : Int) (w : World) (e : Ending) (w' : World) : Prop := ∃ g cap' : Nat, e = .returned (.slice (some ⟨g, 0, none⟩) m.first.length cap') ∧ Mem g (fY ch m.first m.logs m.logs.length) w' ∧ w.heap.size ≤ g ∧ m.first.length ≤ cap' ∧ Below w.heap.size w w'
theorem ES (m : aO) (cb : Nat) (ch : Int) (w : World) (hR : m.R w) (hc : w.cell? ⟨cb, 0, none⟩ = some (.int .i64 ch)) (hcb : cb < w.heap.size) (h0 : 0 ≤ ch) (h1 : ch ≤ 1000000) (hn0 : 0 < m.first.length) (hn : m.first.length ≤ 4096) (hl : m.logs.length ≤ 4096)
  (hk : ∀ g ∈ m.logs, (0 ≤ g.kept ∧ g.kept ≤ (g.l.length : Int)) ∧ g.l.length ≤ 1000000 ∧ ∀ e ∈ g.l, 0 ≤ e.1 ∧ e.1 < (m.first.length : Int)) :
  Calls Tryz.prog 71 #[(.agg #[.slice (m).fA (m).first.length (m).fc, .slice (m).lA (m).logs.length (m).lc, .map (m).asks]), .func (.func 72) #[] #[.pointer (some ⟨cb, 0, none⟩)]] w (A8 m ch w) := by
 have hcl := fun W (hw : Rd W W.heap.size 3 m.fA m.first.length (m.first.flatMap ig)) => DW m.fA m.first.length m.fc (m.first.flatMap ig) W hw hR.1.2.1 (xg _) oM;have vU := aa hcl;have HR := aa hR;have Hk := aa hk;have TE := fun (W : World) (hW : W.cell? ⟨cb, 0, none⟩ = some (.int .i64 ch)) (ln mn : Int) (l0 : 0 ≤ ln) (l1 : ln ≤ 1000000) (m0 : 0 ≤ mn) (m1 : mn ≤ 1000000) => FH cb ch ln mn W hW h0 h1 l0 l1 m0 m1;have aci := aa TE;have Hn0 := aa hn0;have Hn := aa hn;have Hl := aa hl;obtain ⟨fA, fc, first, lA, lc, logs, asks⟩ := m;simp only at vU hn0 hn hl;clear hcl hR TE hk h0 h1;go_enter Tryz.func71, Tryz.ntmps71;go_wp2_with (first
  | (go_at_call 20; refine (vU.out _ ((HR.out.1.2.2.below ae).more (by first | omega | (simp; done) | (simp; omega)))).mono ?_; rintro e w2 ⟨A2, c2, rfl, iN, hb2⟩; obtain ⟨aH, aL, hs2⟩ := bC hb2; (try simp at hs2); have hz2 := zL w.heap.size w2))
 obtain ⟨g, cp, e2, hcp, hg, nh⟩ := bJ iN hn0;injection e2 with e2 _ e3
 subst e2 e3;have hg2 : g < w2.heap.size := by
  obtain ⟨b, off, e, hB, _⟩ := nh.2 hn0;injection e with e
  injection e with e _
  subst e;exact hB
 have PX := aa (tY iN hg2);have hB2 : Below w.heap.size w w2 := ae;have Bp := aa hB2;have qh : w.heap.size ≤ g := by (try simp at hg); omega
 have C2 : Hid (w2.cell? ⟨cb, 0, none⟩ = some (.int .i64 ch)) := aa ((hB2.cell (p := ⟨cb, 0, none⟩) hcb).trans hc);clear iN aH aL hb2 hs2 nh hB2 hc;have hs2 : w.heap.size ≤ w2.heap.size := Bp.out.size
 go_loopw [16] (fun i wr => ∃ k : Nat, i = .int .i64 k ∧ k ≤ logs.length ∧ Hid (Mem g (fY ch first logs k) wr) ∧ Hid (bB g w2.heap.size w2 wr)) (fun i _ => logs.length - (intOf i).toNat)
 case atStart => exact ⟨0, rfl, by omega, PX, aa (bB.refl _ _ _)⟩
 case round =>
  obtain ⟨k, rfl, hk, HG, HB⟩ := hrel;have hsz := HB.out.size;have rO := zL w.heap.size wr;by_cases hlt : (k : Int) < (logs.length : Int)
  ·obtain ⟨x, hx⟩ : ∃ x, logs[k]? = some x := ⟨_, List.getElem?_eq_getElem oM⟩;have hxm := List.mem_of_getElem? hx;obtain ⟨⟨hk0, hk1⟩, hx6, hxe⟩ := Hk.out x hxm;have HXR := aa (HR.out.2.2.2.2 x hxm);obtain ⟨xA, xc, xl, xk⟩ := x;simp only at hk0 hk1 hx6 hxe;have acp : Hid (Rd w w.heap.size 4 xA xl.length (xl.flatMap gD)) := aa HXR.out.2.2;have hxc : xl.length ≤ xc := HXR.out.1;obtain ⟨bL, oL, eL, hbL, LH⟩ := Rd.elem HR.out.2.2.2.1 gX (show k < logs.length by omega) hx;have eL' : lA = some ⟨bL, oL, none⟩ := eL;subst eL';have far : ∀ o u, w.cell? ⟨bL, o, none⟩ = some u → wr.cell? ⟨bL, o, none⟩ = some u := fun o u h => (HB.out.cell (p := ⟨bL, o, none⟩) (by show bL < w2.heap.size; omega) (by show bL ≠ g; omega)).trans ((Bp.out.cell (p := ⟨bL, o, none⟩) hbL).trans h);have L0 := far _ _ (LH 0 _ rfl);have L1 := far _ _ (LH 1 _ rfl);simp only [Nat.add_zero] at L0;have aeQ := zL bL wr;have hki : (0 : Int) ≤ (k : Int) := by omega
   clear far LH;obtain ⟨r, hr⟩ : ∃ r, r = Ca ch k ((xl.length : Int) - xk) := ⟨_, rfl⟩;have hmx := Hc (ch := ch) (ln := (k : Int)) (mn := (xl.length : Int) - xk) oM;rw [← hr] at hmx;obtain ⟨n5, Wl⟩ : ∃ n5 : Nat, xk + r = (n5 : Int) := ⟨(xk + r).toNat, by omega⟩;have hS5 : pp ch k ⟨xA, xc, xl, xk⟩ = n5 := by unfold pp; simp only; rw [← hr, Wl]; exact Int.toNat_natCast n5
   have Td : n5 ≤ xl.length := by omega
   have Oz : n5 ≤ xc := Nat.le_trans Td hxc;have hsub : IntKind.i64.wrap ((xl.length : Int) - xk) = (xl.length : Int) - xk := IntWalk.i64_in _ oM;have hmk := fun (W : World) (hW : W.cell? ⟨cb, 0, none⟩ = some (.int .i64 ch)) => aci.out W hW k ((xl.length : Int) - xk) oM oM oM oM;rw [← hr] at hmk;have Hmk := aa hmk;have hwn : IntKind.i64.wrap (n5 : Int) = (n5 : Int) := IntWalk.i64_in _ oM;have hsum : xk + r = (n5 : Int) := Wl;have Hxe := aa hxe;have Hx := aa hx;have PU := aa hS5;clear hr hmk hxm hx hxe hS5 Wl;go_upto_region 5 with fail
   obtain ⟨w4, hw4⟩ : ∃ W : World, W = wr.alloc (.cells #[.slice xA xl.length xc, .int .i64 xk] 182) := ⟨_, rfl⟩;have hs4 : w4.heap.size = wr.heap.size + 1 := by rw [hw4]; simp
   have hB4 : Below wr.heap.size wr w4 := by rw [hw4]; exact ae
   have G0 := cR hw4 wr.heap.size 0 (.slice xA xl.length xc);have G1 := cJ hw4 wr.heap.size 1 xk;have C4 : Hid (∀ W, Below w4.heap.size w4 W → W.cell? ⟨cb, 0, none⟩ = some (.int .i64 ch)) := aa (fun W hW => (hW.cell (p := ⟨cb, 0, none⟩) (by show cb < w4.heap.size; omega)).trans ((hB4.cell (p := ⟨cb, 0, none⟩) (by show cb < wr.heap.size; omega)).trans ((HB.out.cell (p := ⟨cb, 0, none⟩) (by show cb < w2.heap.size; omega) (by show cb ≠ g; omega)).trans C2.out)));have Ea := aa (HG.out.grow hB4);have jr := aa (HB.out.of (hB4.mono oM));have iZ := zL wr.heap.size w4;rw [← hw4];clear hw4 hB4 L0 L1 HG HB;have hsl := lX xA xl.length xc n5 Oz;have hsl2 := qw xA xl.length xc n5 Oz;have aaX : (n5 : Int) ≤ (xc : Int) := by omega
   refine wp_region_held_drew (S := (fun w' => w'.cell? ⟨wr.heap.size, 0, none⟩ = some (.slice xA xl.length xc) ∧ w'.cell? ⟨wr.heap.size, 1, none⟩ = some (.int .i64 xk))) kR (by first | with_reducible exact ⟨G0, G1⟩ | exact ⟨by go_simp, by go_simp⟩) (fun hHeld => ?_);refine az 0 ?_;refine az 1 ?_;refine az 2 ?_;refine az 3 ?_;refine az 4 ?_;refine az 5 ?_;refine az 6 ?_;refine az 7 ?_;refine az 8 ?_;refine az 9 ?_;refine az 10 ?_;refine az 11 ?_;refine az 16 ?_;refine wE 12 fun K hK => ?_;go_simp;(go_at_call 72; refine (Hmk.out _ (C4.out _ (by first | with_reducible exact dx (Below.refl _ _) | exact ae))).mono ?_; rintro e' w5 ⟨rfl, bU⟩; have hb5 : Below _ _ w5 := jM; have mB := (hb5).size; (try simp at mB); obtain ⟨bX, cw⟩ := bE hb5; have lF := zL wr.heap.size w5);go_wp2_with fail;refine oK hK (by first | with_reducible exact ⟨G0, G1⟩ | exact ⟨by go_simp, by go_simp⟩) fun hHeld => ?_;clear hK K;refine az 13 ?_;refine az 14 ?_;refine az 15 ?_;refine wD ?_;have hsz5 := hb5.size;obtain ⟨o5, Wk⟩ : ∃ o, o = fY ch first logs k := ⟨_, rfl⟩;have Gj := aa (Ea.out.grow hb5);rw [← Wk] at Gj;have jK := aa (jr.out.of (hb5.mono oM));have U0 : Hid (fY ch first logs (k + 1) = (xl.take n5).foldl rN o5) := aa (by rw [zU Hx.out, PU.out, Wk]);have Db : Hid (o5.length = first.length) := aa (by rw [Wk]; exact oD _ _ _ _);have hxn : n5 ≤ xl.length := Td;clear hb5 bU bX cw hHeld Wk Ea jr C4 G0 G1 PU hs4 iZ hsl hsl2 aaX Oz hwn hsub hsum hmx Hmk HXR;go_wp2_with fail
   go_loopw [37] (fun i wq => ∃ j : Nat, i = .int .i64 j ∧ j ≤ n5 ∧ Hid (Mem g ((xl.take j).foldl rN o5) wq) ∧ Hid (bB g w2.heap.size w2 wq)) (fun i _ => n5 - (intOf i).toNat)
   case atStart => exact ⟨0, rfl, by omega, Gj, jK⟩
   case round =>
    obtain ⟨j, rfl, hj, W6, VJ⟩ := hrel;have ae2 := VJ.out.size;have hgq := zL g wr;by_cases hjt : (j : Int) < (n5 : Int)
    ·obtain ⟨y, hy⟩ : ∃ y, xl[j]? = some y := ⟨_, List.getElem?_eq_getElem oM⟩;obtain ⟨bS, oS, eS, hbS, TH⟩ := Rd.elem acp.out BA (show j < xl.length by omega) hy;subst eS;obtain ⟨y0, y1⟩ := Hxe.out y (List.mem_of_getElem? hy);obtain ⟨p, hp⟩ : ∃ p : Nat, y.1 = (p : Int) := ⟨y.1.toNat, by omega⟩;have far : ∀ o u, w.cell? ⟨bS, o, none⟩ = some u → wr.cell? ⟨bS, o, none⟩ = some u := fun o u h => (VJ.out.cell (p := ⟨bS, o, none⟩) (by show bS < w2.heap.size; omega) (by show bS ≠ g; omega)).trans ((Bp.out.cell (p := ⟨bS, o, none⟩) hbS).trans h);have Y0 := far _ _ (TH 0 _ rfl);have Y1 := far _ _ (TH 1 _ rfl);have Y2 := far _ _ (TH 2 _ rfl);have Y3 := far _ _ (TH 3 _ rfl);rw [hp] at Y0;simp only [Nat.add_zero] at Y0;have aeP := zL bS wr;have hp1 : p < first.length := (by omega);obtain ⟨o6, Wj⟩ : ∃ o, o = (xl.take j).foldl rN o5 := ⟨_, rfl⟩;have Nz := aa W6.out;rw [← Wj] at Nz;have S6 : o6.length = first.length := (by rw [Wj, tL, Db.out]);have fV : Hid ((xl.take (j + 1)).foldl rN o5 = o6.set p y.2) := aa (by rw [Gt hy, ← Wj]; unfold rN; rw [hp]; rfl);obtain ⟨z, hz⟩ : ∃ z, o6[p]? = some z := ⟨_, List.getElem?_eq_getElem oM⟩;have s0 := Nz.out.w0 hz;have s1 := Nz.out.w1 hz;have s2 := Nz.out.w2 hz;have sf := Nz.out.2.1;have ac7 := aa S6;have aeg : (0 : Int) ≤ (p : Int) := (by omega);have aef : (p : Int) < (first.length : Int) := (by omega);have hji : (0 : Int) ≤ (j : Int) := (by omega);have HBw := aa VJ.out;clear far TH hy Wj hz S6 W6 VJ y0 y1 hp;go_wp2_with fail;exact ⟨⟨j + 1, by go_num, by omega, aa (by rw [fV.out]; exact (Nz.out.set3 (by rw [ac7.out]; omega) y.2).grow (Below.alloc (Below.refl _ _) (Nat.le_refl _) _)), aa (bB.alloc (bB.setCell (bB.setCell (bB.setCell HBw.out (.inl rfl) _) (.inl rfl) _) (.inl rfl) _) (by simp; omega) _)⟩, by simp [intOf]; omega⟩
    ·obtain rfl : n5 = j := (by omega);have HGn := aa (U0.out ▸ W6.out : Mem g (fY ch first logs (k + 1)) wr);clear W6;go_wp2_with fail;exact ⟨⟨k + 1, by go_num, by omega, HGn, VJ⟩, by simp [intOf]; omega⟩
  ·obtain rfl : logs.length = k := by omega
   have Nc : Below w.heap.size w wr := Bp.out.trans (HB.out.below oM oM);go_wp2_with fail;go_ret;exact ⟨g, _, rfl, HG.out, qh, hcp, Nc⟩
end Go.Proofs.YtapjfhbonfehpaaGreatDoor
namespace Go.Proofs.YtapjfhbonfehpaaGreatDoor
open Go.RowKit Go.Maps
theorem Cn (m : aO) (ch : Int) (w : World) (hR : m.R w) (h0 : 0 ≤ ch) (h1 : ch ≤ 1000000) (hn0 : 0 < m.first.length) (hn : m.first.length ≤ 4096) (hl : m.logs.length ≤ 4096)
  (hk : ∀ g ∈ m.logs, (0 ≤ g.kept ∧ g.kept ≤ (g.l.length : Int)) ∧ g.l.length ≤ 1000000 ∧ ∀ e ∈ g.l, 0 ≤ e.1 ∧ e.1 < (m.first.length : Int)) :
  Calls Tryz.prog 54 #[(.agg #[.slice (m).fA (m).first.length (m).fc, .slice (m).lA (m).logs.length (m).lc, .map (m).asks]), .int .i64 ch] w (A8 m ch w) := by
 have hle := fun (W : World) (hW : Below w.heap.size w W) (hc : W.cell? ⟨w.heap.size + 1, 0, none⟩ = some (.int .i64 ch)) (hz : w.heap.size + 1 < W.heap.size) => ES m (w.heap.size + 1) ch W (hR.below hW) hc hz h0 h1 hn0 hn hl hk;have Hle := aa hle;clear hle hR h0 h1 hn0 hn hl hk;go_enter Tryz.func54, Tryz.ntmps54;go_wp2_with (first
  | (go_at_call 71; refine (Hle.out _ ae (by go_simp) sM).mono ?_; rintro e w2 ⟨g, cap', rfl, hM2, hg2, hc2, hb2⟩))
 go_ret;exact ⟨g, cap', rfl, hM2, (by have h := hg2; simp at h; omega), hc2, ae⟩
def F7 (m : af) (ch : Int) (w : World) (e : Ending) (w' : World) : Prop := ∃ M M0 : af, e = .returned (.agg #[.slice (M).mem.pA (M).mem.hs.length (M).mem.pc, .slice (M).mem.vA (M).mem.vs.length (M).mem.vc, .slice (M).ln.fA (M).ln.first.length (M).ln.fc, .slice (M).ln.lA (M).ln.logs.length (M).ln.lc, .map (M).ln.asks, .slice (M).sA (M).steps.length (M).sc, .int .i64 (M).crashes]) ∧ (M0.fresh m.mem.vs.length (fY ch m.ln.first m.ln.logs m.ln.logs.length) ∧ M.mem = M0.mem ∧ M.ln = M0.ln ∧ M.ak = M0.ak ∧ M.steps = m.steps) ∧ M.R w' ∧ (∀ D, D < w.heap.size → M.off D) ∧ Below w.heap.size w w'
theorem Ch (m : af) (ch : Int) (w : World) (hR : m.R w) (h0 : 0 ≤ ch) (h1 : ch ≤ 1000000) (hv0 : 1 ≤ m.mem.vs.length) (hv8 : m.mem.vs.length ≤ 8) (hs : m.steps.length = m.mem.vs.length) (hf : m.ln.first.length = m.mem.hs.length) (hn0 : 0 < m.mem.hs.length) (hn : m.mem.hs.length ≤ 4096) (hl : m.ln.logs.length ≤ 4096)
  (hk : ∀ g ∈ m.ln.logs, (0 ≤ g.kept ∧ g.kept ≤ (g.l.length : Int)) ∧ g.l.length ≤ 1000000 ∧ ∀ e ∈ g.l, 0 ≤ e.1 ∧ e.1 < (m.ln.first.length : Int)) :
  Calls Tryz.prog 30 #[(oy m), .int .i64 ch] w (F7 m ch w) := by
 have xa := fun W (h : m.R W) => Cn m.ln ch W h.2.1 h0 h1 oM oM hl hk;have hnw := fun W g cap' (h : Mem g (fY ch m.ln.first m.ln.logs m.ln.logs.length) W) => zQ m.mem.vs.length m.ln.first.length (some ⟨g, 0, none⟩) cap' (fY ch m.ln.first m.ln.logs m.ln.logs.length) W (oD _ _ _ _) (by have := h.rd; rwa [oD] at this) hv0 hv8 oM oM;have hsz := fun W => ky m W;have hci := fun W (h : m.R W) => DX m.sA m.steps.length m.sc (m.steps.map (Value.int .i64)) W h.2.2.2.2.1 h.2.2.2.1 (zG _) oM;have Hcr := aa xa;have Hnw := aa hnw;have Bn := aa hsz;have WS := aa hci;have HR := aa hR;have g1 : ((m.mem.vs.length : Int) == 0) = false := by rw [beq_eq_false_iff_ne]; omega
 have g2 : ((m.mem.hs.length : Int) == 0) = false := by rw [beq_eq_false_iff_ne]; omega
 have Hs := aa hs;have Hv0 := aa hv0;clear xa hnw hsz hci hR h0 h1 hv0 hv8 hs hf hn0 hn hl hk;go_enter Tryz.func30, Tryz.ntmps30;go_wp2_with (first
  | (go_at_call 53; refine rB (Bn.out _) ?_; intro w1 hb1 ar aA hs1; (try simp at hs1); have hz1 := zL w.heap.size w1; have Oh := zL (w.heap.size + 1) w1)
  | (go_at_call 54; refine (Hcr.out _ (HR.out.below ae)).mono ?_; rintro e w2 ⟨g, cap', rfl, hM2, hg2, hc2, hb2⟩; obtain ⟨aH, aL, hs2⟩ := bC hb2; (try simp at hs2); have hz2 := zL w.heap.size w2; have Lr := zL (w.heap.size + 1) w2)
  | (go_at_call 28; refine (Hnw.out _ g cap' hM2).mono ?_; rintro e w3 ⟨M0, rfl, hfr, hMR, T6, hb3⟩; obtain ⟨cN, cH, hs3⟩ := bC hb3; (try simp at hs3); have hz3 := zL w.heap.size w3; have Lq := zL (w.heap.size + 1) w3))
 obtain ⟨wB, Bh⟩ : ∃ W : World, W = w3.alloc (.cells #[.slice M0.mem.pA M0.mem.hs.length M0.mem.pc, .slice M0.mem.vA M0.mem.vs.length M0.mem.vc, .slice M0.ln.fA M0.ln.first.length M0.ln.fc, .slice M0.ln.lA M0.ln.logs.length M0.ln.lc, .map M0.ln.asks, .slice M0.sA M0.steps.length M0.sc, .int .i64 M0.crashes] 96) := ⟨_, rfl⟩;have hB3 : Below w.heap.size w w3 := ae;have Uf : Below w.heap.size w wB := by rw [Bh]; exact Below.alloc hB3 oM _
 have hsB : wB.heap.size = w3.heap.size + 1 := by rw [Bh]; simp
 have hRB := HR.out.below Uf;have hMB : M0.R wB := hMR.below (by rw [Bh]; exact Below.alloc (Below.refl _ _) (Nat.le_refl _) _);have hOB : M0.off w3.heap.size := af.off_new hMR (Nat.le_refl _);have q5 := cR Bh w.heap.size 5 (.slice m.sA m.steps.length m.sc);have q6 := cJ Bh w.heap.size 6 m.crashes;have hXB : aB w3.heap.size [.slice M0.mem.pA M0.mem.hs.length M0.mem.pc, .slice M0.mem.vA M0.mem.vs.length M0.mem.vc, .slice M0.ln.fA M0.ln.first.length M0.ln.fc, .slice M0.ln.lA M0.ln.logs.length M0.ln.lc, .map M0.ln.asks, .slice M0.sA M0.steps.length M0.sc, .int .i64 M0.crashes] wB := by rw [Bh]; exact aB.made w3 _ _
 have r0 := cR Bh (w.heap.size + 1) 0 (.slice none 0 0);have r1 := cR Bh (w.heap.size + 1) 1 (.slice none 0 0);have r2 := cR Bh (w.heap.size + 1) 2 (.slice none 0 0);have r3 := cR Bh (w.heap.size + 1) 3 (.slice none 0 0);have r4 := cR Bh (w.heap.size + 1) 4 (.map none);have r5 := cR Bh (w.heap.size + 1) 5 (.slice none 0 0);have r6 := cJ Bh (w.heap.size + 1) 6 0;have rf := fR Bh (w.heap.size + 1);rw [← Bh];have PW := aa (T6 (w.heap.size + 1) oM);have HOA : Hid (∀ D, D < w.heap.size → M0.off D) := aa (fun D hD => T6 D oM);have Mz := aa hXB;have HRB := aa hRB;have HMB := aa hMB;have HOB := aa hOB;have yO := aa hfr;have hzB := zL w.heap.size wB;have adt := zL (w.heap.size + 1) wB;have ads := zL w3.heap.size wB;have n1 : ¬ w3.heap.size = w.heap.size := by omega
 have n2 : ¬ w3.heap.size = w.heap.size + 1 := by omega
 have n3 : ¬ w.heap.size + 1 = w3.heap.size := by omega
 have n4 : ¬ w.heap.size = w3.heap.size := by omega
 have hgz : w.heap.size ≤ w3.heap.size := by omega
 have HBB := aa Uf;have e0 := Mz.out.at (j := 0) rfl;have e1 := Mz.out.at (j := 1) rfl;have e2 := Mz.out.at (j := 2) rfl;have e3 := Mz.out.at (j := 3) rfl;have e4 := Mz.out.at (j := 4) rfl;have e5 := Mz.out.at (j := 5) rfl;have e6 := Mz.out.at (j := 6) rfl;have ef := Mz.out.2.1;clear Bh hXB hRB hMB hOB hfr hMR T6 hB3 Uf hb1 ar aA hb2 aH aL hb3 cN cH hM2 hg2 hc2 hs1 hs2 hs3 hz1 hz2 hz3 Oh Lr Lq hsB;refine wp_region_held_drew (S := (fun w' => w'.cell? ⟨w.heap.size, 5, none⟩ = some (.slice m.sA m.steps.length m.sc) ∧ w'.cell? ⟨w.heap.size, 6, none⟩ = some (.int .i64 m.crashes))) kR (by first | with_reducible exact ⟨q5, q6⟩ | exact ⟨by go_simp, by go_simp⟩) (fun hHeld => ?_);refine az 0 ?_;refine az 1 ?_;refine az 3 ?_;refine az 4 ?_;refine az 5 ?_;refine wE 2 fun K hK => ?_;go_simp;(go_at_call 55; refine (WS.out _ HRB.out.drew).mono ?_; rintro e wC ⟨A', fh, rfl, how, TL⟩; have Qq : Below _ _ wC := (by first | with_reducible exact dx TL | exact TL); have aaO := (Qq).size; (try simp at aaO); obtain ⟨aeG, aez⟩ := bE Qq; have How := aa how; clear how; have hzC := zL w.heap.size wC; have adr := zL (w.heap.size + 1) wC; have adq := zL w3.heap.size wC);go_wp2_with fail;refine oK hK (by first | with_reducible exact ⟨q5, q6⟩ | exact ⟨by go_simp, by go_simp⟩) fun hHeld => ?_;clear hK K;refine az 6 ?_;refine wE 7 fun K hK => ?_;go_simp;go_wp2_with fail;refine oK hK (by first | with_reducible exact ⟨q5, q6⟩ | exact ⟨by go_simp, by go_simp⟩) fun hHeld => ?_;clear hK K;refine az 8 ?_;refine wE 9 fun K hK => ?_;go_simp;go_wp2_with fail;refine oK hK (by first | with_reducible exact ⟨q5, q6⟩ | exact ⟨by go_simp, by go_simp⟩) fun hHeld => ?_;clear hK K;refine wD ?_;obtain ⟨cv, hcv⟩ : ∃ cv, IntKind.i64.wrap (m.crashes + 1) = cv := ⟨_, rfl⟩;rw [hcv];obtain ⟨gs, sc2, e9, hsc, hgs, hrs⟩ := bJ How.out (by rw [Hs.out]; exact Hv0.out);injection e9 with e9 _ e10
 subst e9 e10;have aew : wB.heap.size ≤ gs := by (try simp at hgs); omega
 obtain ⟨M, hM⟩ : ∃ M : af, M = ⟨M0.mem, M0.ln, some ⟨gs, 0, none⟩, fh, m.steps, cv, M0.ak⟩ := ⟨_, rfl⟩;have hMC : M.R wC := by
  have h := HMB.out.below Qq;rw [hM];exact ⟨h.1, h.2.1, hsc, fun e => (by cases e), hrs, h.2.2.2.2.2⟩
 have hO3 : M.off w3.heap.size := by
  have h := HOB.out;rw [hM];exact ⟨h.1, h.2.1, fun _ b o e => (by injection e with e; injection e with e _; omega), h.2.2.2⟩
 have LU : M.off (w.heap.size + 1) := by
  have h := PW.out;rw [hM];exact ⟨h.1, h.2.1, fun _ b o e => (by injection e with e; injection e with e _; omega), h.2.2.2⟩
 have HOM : Hid (∀ D, D < w.heap.size → M.off D) := aa (fun D hD => by
  have h := HOA.out D hD;rw [hM];exact ⟨h.1, h.2.1, fun _ b o e => (by injection e with e; injection e with e _; omega), h.2.2.2⟩)
 have M6 : gz w3.heap.size 7 wC := Mz.out.some.below Qq;have hD : M.R ((wC.setCell ⟨w3.heap.size, 5, none⟩ (.slice (some ⟨gs, 0, none⟩) m.steps.length fh)).setCell ⟨w3.heap.size, 6, none⟩ (.int .i64 cv)) := (hMC.set hO3 (M6.at dM) _).set hO3 ((M6.set (fun _ => by decide) _).at dM) _;have hY : gz (w.heap.size + 1) 7 wC := (sI r0 r1 r2 r3 r4 r5 r6 rf).some.below Qq;have hYD := gz.set (gz.set hY (C := w3.heap.size) (o := 5) (fun e => absurd e n2) (.slice (some ⟨gs, 0, none⟩) m.steps.length fh)) (C := w3.heap.size) (o := 6) (fun e => absurd e n2) (.int .i64 cv);have hE := af.R.fill (l := [.slice M0.mem.pA M0.mem.hs.length M0.mem.pc, .slice M0.mem.vA M0.mem.vs.length M0.mem.vc, .slice M0.ln.fA M0.ln.first.length M0.ln.fc, .slice M0.ln.lA M0.ln.logs.length M0.ln.lc, .map M0.ln.asks, .slice (some ⟨gs, 0, none⟩) m.steps.length fh, .int .i64 cv]) hD LU hYD (by exact Nat.le_refl 7) 0 (by exact Nat.le_refl 7);have WC : Below w.heap.size w wC := HBB.out.trans (Qq.mono oM);have Ue := aZ (N := w.heap.size) (B := w.heap.size + 1) oM [.slice M0.mem.pA M0.mem.hs.length M0.mem.pc, .slice M0.mem.vA M0.mem.vs.length M0.mem.vc, .slice M0.ln.fA M0.ln.first.length M0.ln.fc, .slice M0.ln.lA M0.ln.logs.length M0.ln.lc, .map M0.ln.asks, .slice (some ⟨gs, 0, none⟩) m.steps.length fh, .int .i64 cv] 0 ((WC.setCell (p := ⟨w3.heap.size, 5, none⟩) hgz (.slice (some ⟨gs, 0, none⟩) m.steps.length fh)).setCell (p := ⟨w3.heap.size, 6, none⟩) hgz (.int .i64 cv));simp only [aQ, Nat.zero_add, Nat.reduceAdd] at hE Ue;have HE := aa hE;have HBD := aa Ue;have Hm := aa hM;clear hE Ue hM hMC hO3 LU M6 hD hY hYD WC hrs;go_wp2_with fail;have HC := aa yO.out;refine bodyPost_ret (v := (.agg #[.slice (M).mem.pA (M).mem.hs.length (M).mem.pc, .slice (M).mem.vA (M).mem.vs.length (M).mem.vc, .slice (M).ln.fA (M).ln.first.length (M).ln.fc, .slice (M).ln.lA (M).ln.logs.length (M).ln.lc, .map (M).ln.asks, .slice (M).sA (M).steps.length (M).sc, .int .i64 (M).crashes])) (by rw [Hm.out]; simp [results, Tryz.results30, go_sem]; (try go_simp)) rfl ⟨M, M0, rfl, ⟨yO.out, by rw [Hm.out], by rw [Hm.out], by rw [Hm.out], by rw [Hm.out]⟩, ?_, HOM.out, ?_⟩
 ·with_reducible exact HE.out
 ·with_reducible exact HBD.out
theorem IZ (w : World) (o : Obj) {k : Nat} (hk : k = w.heap.size) : (w.alloc o).heap[k]? = some o := by
 subst hk;exact Go.heap_alloc_new w o
theorem Fx {α β : Type} {g : α → List β} {l : List α} {k : Nat} {a : α} (h : l[k]? = some a) : (l.take (k + 1)).flatMap g = (l.take k).flatMap g ++ g a := by
 rw [List.take_add_one, h];simp
theorem wK {w : World} {B base size n : Nat} {e : TypeId} {v : Value} {xs : List Value} (h : w.ownsRow base e size v n xs) (hB : B ≤ base) : w.ownsRow B e size v n xs := by
 refine ⟨h.1, ?_⟩;rcases h.2 with h2 | ⟨g, cap, cur, h3, h4, h5⟩
 ·exact .inl h2
 ·exact .inr ⟨g, cap, cur, h3, Nat.le_trans hB h4, h5⟩
theorem EQ (m : af) (k j : Nat) (h : br) (g : io) (w : World) (hR : m.mem.R w) (hh : m.mem.hs[k]? = some h) (hj : h.l.length = j + 1) (OC : j ≤ 1000000) (hg : h.l[j]? = some g) : Calls Tryz.prog 56 #[(oy m), .int .i64 k] w (cd (.tuple #[.agg #[.int .i64 g.x.v, .int .u32 g.x.r, .int .u32 g.x.f], .bool true]) w) := by
 have hl := fun W (hw : m.mem.R W) => HI m.mem k j h g W hw hh hj OC hg;have Hl := aa hl;have HR := aa hR;clear hl hR hh hj hg;go_enter Tryz.func56, Tryz.ntmps56;go_wp2_with (first | (go_at_call 74; refine rB (Hl.out _ (HR.out.below ae)) ?_; intro w1 hb1 ar aA hs1; (try simp at hs1); have hz1 := zL (w.heap.size + 1) w1));exact bodyPost_ret (v := .tuple #[.agg #[.int .i64 g.x.v, .int .u32 g.x.r, .int .u32 g.x.f], .bool true]) (by simp [results, Tryz.results56, go_sem]; (try go_simp)) rfl ⟨rfl, ae⟩
theorem jp : (Tryz.prog.info? 56).map (fun i => (i.zero, i.size, i.bytes)) = some (some (.agg #[.int .i64 0, .int .u32 0, .int .u32 0]), 3, 16) := by kernel_rfl
theorem KH (x : W3) : ∀ u ∈ ig x, u.oneCell' = true := by
 intro u hu;simp [ig] at hu;rcases hu with rfl | rfl | rfl <;> rfl
theorem Cf (m : af) (ws : List W3) (w : World) (hR : m.mem.R w) (hl : ws.length = m.mem.hs.length) (hL : m.mem.hs.length ≤ 4096) (hw : ∀ (k : Nat) (x : W3), ws[k]? = some x → ∀ W, m.mem.R W → Calls Tryz.prog 56 #[(oy m), .int .i64 k] W (cd (.tuple #[(qg x), .bool true]) W)) :
  Calls Tryz.prog 31 #[(oy m)] w fun e w' => ∃ v : Value, e = .returned v ∧ w'.ownsRow w.heap.size 56 3 v ws.length (ws.flatMap ig) ∧ Below w.heap.size w w' := by
 obtain ⟨i0, hi, fF, fw, fD⟩ := info_parts jp;have hsz := fun W => ky m W;have Hi := aa hi;have Bn := aa hsz;have HR := aa hR;have Hw := aa hw;have Hl := aa hl;clear hR hw hl hi hsz;go_enter Tryz.func31, Tryz.ntmps31;go_wp2_with (first
  | (go_at_call 53; refine (Bn.out _).mono ?_; rintro e w1 ⟨rfl, hb1⟩; have Hb1 := aa hb1; have hs1 := hb1.size; (try simp at hs1); clear hb1))
 have S9 : w1.heap[w.heap.size]? = some (.cells #[.slice m.mem.pA m.mem.hs.length m.mem.pc, .slice m.mem.vA m.mem.vs.length m.mem.vc, .slice m.ln.fA m.ln.first.length m.ln.fc, .slice m.ln.lA m.ln.logs.length m.ln.lc, .map m.ln.asks, .slice m.sA m.steps.length m.sc, .int .i64 m.crashes] 96 (0, 0)) := (Hb1.out.block w.heap.size sM).trans (IZ _ _ rfl);have VM : Hid (Below w.heap.size w w1) := aa ((Below.alloc (Below.refl _ _) (Nat.le_refl _) _).trans (Hb1.out.mono sM));have Hob := aa S9;clear S9 Hb1
 go_loopw [5, 15] (fun v i wr => ∃ k : Nat, i = .int .i64 k ∧ k ≤ ws.length ∧ Hid (wr.ownsRow w1.heap.size 56 3 v k ((ws.take k).flatMap ig)) ∧ Hid (Below w1.heap.size w1 wr)) (fun _ i _ => ws.length - (intOf i).toNat)
 case atStart => exact ⟨0, rfl, by omega, aa (World.ownsRow_nil _ _ _ _), aa (Below.refl _ _)⟩
 case round =>
  obtain ⟨k, rfl, hk, dR, HB⟩ := hrel;have hzb := zL w.heap.size w1;have Ou : w1.heap.size ≤ wr.heap.size := HB.out.size;have rO := zL w.heap.size wr;have Iz := Hl.out;by_cases hlt : (k : Int) < m.mem.hs.length
  ·have hk1 : k < ws.length := by omega
   obtain ⟨x, hx⟩ : ∃ x, ws[k]? = some x := ⟨_, List.getElem?_eq_getElem hk1⟩;have Ae := (HB.out.block w.heap.size hzb).trans Hob.out;have c0 : wr.cell? ⟨w.heap.size, 0, none⟩ = some (.slice m.mem.pA m.mem.hs.length m.mem.pc) := by simp [World.cell?, Ae]
   have c1 : wr.cell? ⟨w.heap.size, 1, none⟩ = some (.slice m.mem.vA m.mem.vs.length m.mem.vc) := by simp [World.cell?, Ae]
   have c2 : wr.cell? ⟨w.heap.size, 2, none⟩ = some (.slice m.ln.fA m.ln.first.length m.ln.fc) := by simp [World.cell?, Ae]
   have c3 : wr.cell? ⟨w.heap.size, 3, none⟩ = some (.slice m.ln.lA m.ln.logs.length m.ln.lc) := by simp [World.cell?, Ae]
   have c4 : wr.cell? ⟨w.heap.size, 4, none⟩ = some (.map m.ln.asks) := by simp [World.cell?, Ae]
   have c5 : wr.cell? ⟨w.heap.size, 5, none⟩ = some (.slice m.sA m.steps.length m.sc) := by simp [World.cell?, Ae]
   have c6 : wr.cell? ⟨w.heap.size, 6, none⟩ = some (.int .i64 m.crashes) := by simp [World.cell?, Ae]
   have WW := aa (HR.out.below (VM.out.trans (HB.out.mono oM)));have hwk := Hw.out k x hx;have UX := aa hwk;have Hx := aa hx;have j0 : (0 : Int) ≤ (k : Int) := by omega
   clear Ae hwk hx Iz;have hi := Hi.out;go_wp2_with (first
    | (go_at_call 56; refine (UX.out _ WW.out).mono ?_; rintro e w2 ⟨rfl, hb2⟩; have Hb2 := aa hb2; have hs2 := hb2.size; clear hb2)
    | (at_builtin; (refine wpList_append_own _ rfl _ _ 25 rfl w1.heap.size 56 i0 _ 3 16 Tryz.underlying25 hi fF fw fD rfl dM _ k ((ws.take k).flatMap ig) rfl (own_below dR.out ((Hb2.out.trans (Below.alloc (Below.refl _ _) hs2 _)).trans (Below.alloc (Below.refl _ _) (by simp; omega) _))) ⟨w2.heap.size + 1, 0, none⟩ 1 1 (ig x) rfl rfl ?o2 ?o3 ?o4 ?o5 ?o6 ?_)))
   case o2 =>
    intro j u hj
    match j, hj with
    | 0, hj => simp [ig] at hj; subst hj; simp [Addr.add]
    | 1, hj => simp [ig] at hj; subst hj; simp [Addr.add]
    | 2, hj => simp [ig] at hj; subst hj; simp [Addr.add]
    | (j + 3), hj => simp [ig] at hj
   case o3 => exact KH _
   case o4 => unfold maxLen; omega
   case o5 => omega
   case o6 => simp; omega
   intro v' w5 hown' hg _;have iM : w5.ownsRow w1.heap.size 56 3 v' (k + 1) ((ws.take (k + 1)).flatMap ig) := by
    rw [Fx Hx.out];exact hown'
   have rJ : Below w1.heap.size w1 w5 := below_grown ((HB.out.trans ((Hb2.out.trans (Below.alloc (Below.refl _ _) hs2 _)).trans (Below.alloc (Below.refl _ _) (by simp; omega) _) |>.mono Ou))) hg (own_below dR.out ((Hb2.out.trans (Below.alloc (Below.refl _ _) hs2 _)).trans (Below.alloc (Below.refl _ _) (by simp; omega) _))) (Nat.le_refl _) (by simp; omega);have rL := aa iM;have jK := aa rJ;clear hown' hg iM rJ hi;go_wp2_with fail;first
    | exact ⟨⟨k + 1, by go_num, by omega, rL, jK⟩, by simp [intOf]; omega⟩
    | ((repeat apply Exists.intro); exact ⟨⟨k + 1, by go_num, by omega, rL, jK⟩, by simp [intOf]; omega⟩)
  ·obtain rfl : ws.length = k := by omega
   have D5 : Hid (World.ownsRow wr w1.heap.size 56 3 _ ws.length (ws.flatMap ig)) := aa (by have q := dR.out; rw [List.take_length] at q; exact q);have hbs : w.heap.size ≤ w1.heap.size := by omega
   clear dR Iz;go_wp2_with fail;go_ret;exact ⟨_, rfl, wK D5.out hbs, VM.out.trans (HB.out.mono oM)⟩
end Go.Proofs.YtapjfhbonfehpaaGreatDoor
