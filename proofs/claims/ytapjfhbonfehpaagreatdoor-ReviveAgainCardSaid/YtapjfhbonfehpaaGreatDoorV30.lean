/- Package history: New, Len, At, Last, Choose. -/
import Derived.Deep.RegionLaw
import Derived.Test.YtapjfhbonfehpaaGreatDoorV09
import Derived.Test.YtapjfhbonfehpaaGreatDoorV26
set_option linter.unusedSimpArgs false
set_option linter.unusedVariables false
set_option maxRecDepth 100000
set_option maxHeartbeats 40000000
namespace Go.Proofs.YtapjfhbonfehpaaGreatDoor
open Go.RowKit Go.Maps
def m0 : io := ⟨z3, 0, ⟨none, fun _ => 0⟩⟩
theorem mD (h : br) (w : World) : Calls Tryz.prog 120 #[(.agg #[.slice (h).A (h).l.length (h).cap])] w (cd (.int .i64 h.l.length) w) := by
 go_enter Tryz.func120, Tryz.ntmps120;go_wp2_with fail;go_ret;exact ⟨rfl, ae⟩
theorem Fe {L : Nat} {w : World} {h : br} (hr : h.R L w) {k : Nat} {m : io} (hm : h.l[k]? = some m) : ∃ b off, h.A = some ⟨b, off, none⟩ ∧ b < w.heap.size ∧ w.cell? ⟨b, off + k * 5, none⟩ = some (.int .i64 m.x.v) ∧ w.cell? ⟨b, off + k * 5 + 1, none⟩ = some (.int .u32 m.x.r) ∧ w.cell? ⟨b, off + k * 5 + 2, none⟩ = some (.int .u32 m.x.f) ∧ w.cell? ⟨b, off + k * 5 + 3, none⟩ = some (.int .i64 m.t) ∧ w.cell? ⟨b, off + k * 5 + 4, none⟩ = some (.map m.a.v) := by
 have hk : k < h.l.length := (List.getElem?_eq_some_iff.1 hm).1;obtain ⟨b, off, e, hb, hc⟩ := Rd.elem hr.2.2.1 G9 hk hm;exact ⟨b, off, e, hb, hc 0 _ rfl, hc 1 _ rfl, hc 2 _ rfl, hc 3 _ rfl, hc 4 _ rfl⟩
theorem yq (L : Nat) (h : br) (k : Nat) (m : io) (w : World) (hr : h.R L w) (hm : h.l[k]? = some m) : Calls Tryz.prog 92 #[(.agg #[.slice (h).A (h).l.length (h).cap]), .int .i64 k] w (cd (.tuple #[(.agg #[.int .i64 (m).x.v, .int .u32 (m).x.r, .int .u32 (m).x.f, .int .i64 (m).t, .map (m).a.v]), .bool true]) w) := by
 have hk : k < h.l.length := (List.getElem?_eq_some_iff.1 hm).1;obtain ⟨b, off, e, hb, c0, c1, c2, c3, c4⟩ := Fe hr hm;obtain ⟨A, cap, l⟩ := h;obtain ⟨x, t, a⟩ := m;simp only at e c0 c1 c2 c3 c4 hk;subst e;have hk0 : ¬ ((k : Int) < 0) := by omega
 have hk1 : (0 : Int) ≤ (k : Int) := by omega
 have hk2 : (k : Int) < (l.length : Int) := by omega
 have hk3 : ¬ ((l.length : Int) ≤ (k : Int)) := by omega
 clear hm hr;go_enter Tryz.func92, Tryz.ntmps92;go_wp2_with fail;exact bodyPost_ret (v := .tuple #[(.agg #[.int .i64 (io.mk x t a).x.v, .int .u32 (io.mk x t a).x.r, .int .u32 (io.mk x t a).x.f, .int .i64 (io.mk x t a).t, .map (io.mk x t a).a.v]), .bool true]) (by simp [results, Tryz.results92, go_sem]) rfl ⟨rfl, ae⟩
theorem Fc (L : Nat) (h : br) (k : Nat) (m : io) (w : World) (hr : h.R L w) (hk : h.l.length = k + 1) (hk6 : k ≤ 1000000) (hm : h.l[k]? = some m) : Calls Tryz.prog 84 #[(.agg #[.slice (h).A (h).l.length (h).cap])] w (cd (.agg #[.int .i64 (m).x.v, .int .u32 (m).x.r, .int .u32 (m).x.f, .int .i64 (m).t, .map (m).a.v]) w) := by
 have hsub : IntKind.i64.wrap ((h.l.length : Int) - 1) = (k : Int) := by rw [show (h.l.length : Int) - 1 = (k : Int) by omega]; exact IntWalk.i64_in _ oM
 have Hr := aa hr;clear hr hk;go_enter Tryz.func84, Tryz.ntmps84;go_wp2_with (first
  | (go_at_call 92; refine rB (yq L h k m _ (Hr.out.below ae) hm) ?_; intro w1 hb1 ar aA hs1; (try simp at hs1); have iZ := zL w.heap.size w1; have lF := zL (w.heap.size + 1) w1))
 exact bodyPost_ret (v := (.agg #[.int .i64 (m).x.v, .int .u32 (m).x.r, .int .u32 (m).x.f, .int .i64 (m).t, .map (m).a.v])) (by simp [results, Tryz.results84, go_sem]; go_simp) rfl ⟨rfl, ae⟩
def cz (n : Nat) (i c : Int) : Int := let last : Int := (n : Int) - 1; last - max c 0 % (last - max 0 (min i last) + 1)
theorem Im : (Tryz.prog.info? 173).map (fun i => (i.zero, i.size, i.bytes)) = some (some (.agg #[.int .i64 0, .int .u32 0, .int .u32 0, .int .i64 0, .map none]), 5, 32) := by kernel_rfl
theorem FN (A : Option Addr) (m cp : Nat) (w : World) (h : m ≤ cp) :
  Calls Tryz.prog 128 #[.slice A m cp] w fun e w' => e = .returned (.slice A m m) ∧ w = w' := by
 go_enter Tryz.func128, Tryz.ntmps128
 go_wp2
 all_goals go_ret
 all_goals exact ⟨rfl, rfl⟩
theorem IR (L : Nat) (h : br) (m : io) (w : World) (hr : h.R L w) (hm : m.a.R L w) (hn : h.l.length ≤ 1000000) : Calls Tryz.prog 121 #[(.agg #[.slice (h).A (h).l.length (h).cap]), (.agg #[.int .i64 (m).x.v, .int .u32 (m).x.r, .int .u32 (m).x.f, .int .i64 (m).t, .map (m).a.v])] w fun e w' => ∃ g cap', e = .returned (.agg #[.slice (some ⟨g, 0, none⟩) (h.l.length + 1) cap']) ∧ w.heap.size ≤ g ∧ br.R L w' ⟨some ⟨g, 0, none⟩, cap', h.l ++ [m]⟩ ∧ Below w.heap.size w w' := by
 obtain ⟨i0, hi, fF, fw, fD⟩ := info_parts Im;obtain ⟨A, cap, l⟩ := h;obtain ⟨hc, hA, nh, hv⟩ := hr;simp only at hc hA nh hv hn;have Hr := aa nh;have HA := aa hA;have Hv := aa hv;have Hm := aa hm;clear nh hA hv hm;go_enter Tryz.func121, Tryz.ntmps121;go_wp2_with fail
 go_region_law (first
   | (refine lv rfl (.tmp 7) (.tmp 9) 147 rfl 173 i0 _ 5 32 Tryz.underlying147 hi fF fw fD w.heap.size A l.length (l.flatMap vB) (by simp [Act.eval, Act.put]) (Hr.out.below ae) HA.out ⟨w.heap.size + 1 + 1 + 1, 0, none⟩ 1 (vB m) (by simp [Act.eval, Act.put]) rfl ?_ (by unfold maxLen; omega) oM ?_; (focus (intro j u hu; exact bq _ _ _ sM hu)); intro qm w2 hcp yl hb2 hz3; obtain ⟨aH, aL⟩ := bE hb2)
   | (go_simp; go_at_call 128; refine (FN A l.length cap _ hc).mono ?_; rintro e w3 ⟨rfl, rfl⟩))
 all_goals go_wp2_with fail
 all_goals have hs2 := hz3
 all_goals (try simp at hs2)
 all_goals have rO := zL (w.heap.size + 1 + 1) w2
 all_goals have e4 := cE w2 (w.heap.size + 1 + 1) 0 (.slice none 0 0)
 all_goals have hB2 : Below w.heap.size w w2 := ae
 all_goals have h7 := yl.out
 all_goals (try simp at h7)
 all_goals refine bodyPost_ret (v := .agg #[.slice (some ⟨w.heap.size + 1 + 1 + 1 + 1, 0, none⟩) (l.length + 1) qm]) (by simp [results, Tryz.results121, go_sem, e4]) rfl ⟨_, _, rfl, by omega, ⟨by simpa using hcp.out, (fun e => by cases e), ?_, ?_⟩, ae⟩
 all_goals first
  |(intro x hx
    have hx' := List.mem_append.1 hx;have hBw : Below w.heap.size w (w2.setCell ⟨w.heap.size + 1 + 1, 0, none⟩ (.slice (some ⟨w.heap.size + 1 + 1 + 1 + 1, 0, none⟩) (l.length + 1) qm)) := ae;rcases hx' with hx' | hx'
    ·exact (Hv.out x hx').below hBw
    ·obtain rfl := List.mem_singleton.1 hx';exact Hm.out.below hBw
    done)
  | skip
 all_goals with_reducible refine Rd.set_far ?_ oM _
 all_goals (show Rd w2 _ 5 _ (l ++ [m]).length ((l ++ [m]).flatMap vB))
 all_goals rw [List.length_append, List.flatMap_append, List.flatMap_cons, List.flatMap_nil, List.append_nil]
 all_goals exact Rd.more h7 sM
theorem iC (n : Nat) (i c F C R : Int) (hF : F = max 0 (min i ((n : Int) - 1))) (hC : C = max c 0) (hR : R = (n : Int) - 1 - C % ((n : Int) - 1 - F + 1)) (h0 : 0 < n) (hn : n ≤ 1000000) : wrap64 R = cz n i c := by
 unfold cz;simp only;rw [← hF, ← hC, ← hR];have h1 : 0 ≤ C % ((n : Int) - 1 - F + 1) := Int.emod_nonneg _ oM;have h2 : C % ((n : Int) - 1 - F + 1) < (n : Int) - 1 - F + 1 := Int.emod_lt_of_pos _ oM;unfold wrap64;omega
theorem Af (h : br) (n : Nat) (i c : Int) (w : World) (hn : h.l.length = n) (h0 : 0 < n) (hn6 : n ≤ 1000000) (hc : (Lit.int .i64 c).wf = true) :
  Calls Tryz.prog 126 #[(.agg #[.slice (h).A (h).l.length (h).cap]), .int .i64 i, .int .i64 c] w (cd (.int .i64 (cz n i c)) w) := by
 obtain ⟨A, cap, l⟩ := h;simp only at hn;have hsub : IntKind.i64.wrap ((l.length : Int) - 1) = (n : Int) - 1 := by rw [hn]; exact IntWalk.i64_in _ oM
 have hl0 : ¬ ((n : Int) - 1 < 0) := by omega
 have H0 := aa h0;have H6 := aa hn6;clear hn;go_enter Tryz.func126, Tryz.ntmps126;go_wp2_with fail;all_goals go_ret
 all_goals refine ⟨congrArg (fun z => Ending.returned (Value.int IntKind.i64 z)) ?_, ae⟩
 all_goals clear hc hsub hl0
 all_goals rename_i g1 g2
 all_goals have g3 := h
 all_goals clear h
 all_goals have z0 := H0.out
 all_goals by_cases z1 : (n : Int) - 1 < i
 all_goals (try rw [if_pos z1] at g1)
 all_goals (try rw [if_pos z1] at g2)
 all_goals (try rw [if_pos z1] at g3)
 all_goals (try rw [if_neg z1] at g1)
 all_goals (try rw [if_neg z1] at g2)
 all_goals (try rw [if_neg z1] at g3)
 all_goals first
  | (refine iC n i c ((n : Int) - 1) 0 _ ?_ ?_ ?_ H0.out H6.out <;> (first | omega | (simp; done)); done)
  | (refine iC n i c ((n : Int) - 1) c _ ?_ ?_ ?_ H0.out H6.out <;> (first | omega | (simp; done)); done)
  | (refine iC n i c i 0 _ ?_ ?_ ?_ H0.out H6.out <;> (first | omega | (simp; done)); done)
  | (refine iC n i c i c _ ?_ ?_ ?_ H0.out H6.out <;> (first | omega | (simp; done)); done)
  | (refine iC n i c 0 0 _ ?_ ?_ ?_ H0.out H6.out <;> (first | omega | (simp; done)); done)
  | (refine iC n i c 0 c _ ?_ ?_ ?_ H0.out H6.out <;> (first | omega | (simp; done)); done)
theorem He (m : aS) (w : World) : Calls Tryz.prog 70 #[(.agg #[.slice (m).pA (m).hs.length (m).pc, .slice (m).vA (m).vs.length (m).vc])] w (cd (.tuple #[.int .i64 m.vs.length, .int .i64 m.hs.length]) w) := by
 go_enter Tryz.func70, Tryz.ntmps70;go_wp2_with fail
 go_region
 all_goals go_wp2
 all_goals go_ret2
 all_goals exact ⟨rfl, ae⟩
theorem tX (m : aS) (t : Int) (w : World) : Calls Tryz.prog 123 #[(.agg #[.slice (m).pA (m).hs.length (m).pc, .slice (m).vA (m).vs.length (m).vc]), .int .i64 t] w (cd (.bool (decide (1 ≤ t) && decide (t ≤ (m.vs.length : Int)))) w) := by
 by_cases h1 : 1 ≤ t;all_goals by_cases h2 : t ≤ (m.vs.length : Int)
 all_goals go_enter Tryz.func123, Tryz.ntmps123
 all_goals go_wp2_with fail
 all_goals go_ret
 all_goals exact ⟨by simp [h1, h2] <;> omega, ae⟩
theorem wO (m : aS) (z : Int) (w : World) : Calls Tryz.prog 91 #[(.agg #[.slice (m).pA (m).hs.length (m).pc, .slice (m).vA (m).vs.length (m).vc]), .int .i64 z] w (cd (.bool (decide (0 ≤ z) && decide (z < (m.hs.length : Int)))) w) := by
 by_cases h1 : 0 ≤ z;all_goals by_cases h2 : z < (m.hs.length : Int)
 all_goals go_enter Tryz.func91, Tryz.ntmps91
 all_goals go_wp2_with fail
 all_goals go_ret
 all_goals exact ⟨by simp [h1, h2] <;> omega, ae⟩
theorem wN (m : aS) (t z : Int) (w : World) (h1 : 1 ≤ t) (h2 : t ≤ (m.vs.length : Int)) (h3 : 0 ≤ z) (h4 : z < (m.hs.length : Int)) : Calls Tryz.prog 112 #[(.agg #[.slice (m).pA (m).hs.length (m).pc, .slice (m).vA (m).vs.length (m).vc]), .int .i64 t, .int .i64 z] w (cd (.int .i64 0) w) := by
 have ht := fun W => tX m t W;rw [show (decide (1 ≤ t) && decide (t ≤ (m.vs.length : Int))) = true by simp [h1, h2]] at ht;have hp := fun W => wO m z W;rw [show (decide (0 ≤ z) && decide (z < (m.hs.length : Int))) = true by simp [h3, h4]] at hp;have Ht := aa ht;have Hp := aa hp;clear ht hp;go_enter Tryz.func112, Tryz.ntmps112;go_wp2_with (first
  | (go_at_call 123; refine rB (Ht.out _) ?_; intro w1 hb1 ar aA hs1; (try simp at hs1); have iZ := zL w.heap.size w1)
  | (go_at_call 91; refine rB (Hp.out _) ?_; intro w2 hb2 aH aL hs2; (try simp at hs2)))
 go_ret;exact ⟨rfl, ae⟩
theorem mem_seen (m : aS) (t : Nat) (a : eG) (w : World) (hR : m.R w) (ha : m.vs[t]? = some a) (hn : m.vs.length ≤ 1000) : Calls Tryz.prog 118 #[(.agg #[.slice (m).pA (m).hs.length (m).pc, .slice (m).vA (m).vs.length (m).vc]), .int .i64 ((t : Int) + 1)] w (cd (.agg #[.map a.v]) w) := by
 have htn : t < m.vs.length := (List.getElem?_eq_some_iff.1 ha).1;obtain ⟨b, off, e, hb, c0⟩ := Rd.one hR.2.2.2.1 htn ha;have ht := fun W => tX m ((t : Int) + 1) W;rw [show (decide (1 ≤ (t : Int) + 1) && decide ((t : Int) + 1 ≤ (m.vs.length : Int))) = true by simp; omega] at ht;have Ht := aa ht;obtain ⟨pA, pc, hs, vA, vc, vs⟩ := m;simp only at e htn hn;subst e;have h0 : (0 : Int) ≤ (t : Int) := by omega
 have h1 : (t : Int) < (vs.length : Int) := by omega
 have hw : IntKind.i64.wrap ((t : Int) + 1 - 1) = (t : Int) := by rw [show (t : Int) + 1 - 1 = (t : Int) by omega]; exact IntWalk.i64_in _ oM
 have hw2 : IntKind.i64.wrap (t : Int) = (t : Int) := IntWalk.i64_in _ oM;unfold ze at c0;have Fj : b < w.heap.size + 1 := by omega
 have Fi : b < w.heap.size + 1 + 1 := by omega
 clear ht hR ha;go_enter Tryz.func118, Tryz.ntmps118;go_wp2_with (first | (go_at_call 123; refine rB (Ht.out _) ?_; intro w1 hb1 ar aA hs1; (try simp at hs1); have iZ := zL w.heap.size w1));exact bodyPost_ret (v := .agg #[.map a.v]) (by simp [results, Tryz.results118, go_sem]; (try go_simp)) rfl ⟨rfl, ae⟩
theorem zK (m : aS) (k : Nat) (h : br) (w : World) (hR : m.R w) (hh : m.hs[k]? = some h) : Calls Tryz.prog 83 #[(.agg #[.slice (m).pA (m).hs.length (m).pc, .slice (m).vA (m).vs.length (m).vc]), .int .i64 k] w (cd (.tuple #[(.agg #[.slice (h).A (h).l.length (h).cap]), .bool true]) w) := by
 have htn : k < m.hs.length := (List.getElem?_eq_some_iff.1 hh).1;obtain ⟨b, off, e, hb, c0⟩ := Rd.one hR.1.2.2.1 htn hh;have ht := fun W => wO m k W;rw [show (decide (0 ≤ (k : Int)) && decide ((k : Int) < (m.hs.length : Int))) = true by simp; omega] at ht;have Ht := aa ht;obtain ⟨pA, pc, hs, vA, vc, vs⟩ := m;simp only at e htn;subst e;have h0 : (0 : Int) ≤ (k : Int) := by omega
 have h1 : (k : Int) < (hs.length : Int) := by omega
 unfold bK at c0;have Fj : b < w.heap.size + 1 := by omega
 have Fi : b < w.heap.size + 1 + 1 := by omega
 clear ht hR hh;go_enter Tryz.func83, Tryz.ntmps83;go_wp2_with (first | (go_at_call 91; refine rB (Ht.out _) ?_; intro w1 hb1 ar aA hs1; (try simp at hs1); have iZ := zL w.heap.size w1));exact bodyPost_ret (v := .tuple #[(.agg #[.slice (h).A (h).l.length (h).cap]), .bool true]) (by simp [results, Tryz.results83, go_sem]; (try go_simp)) rfl ⟨rfl, ae⟩
theorem Fz (a b c d e : Value) (w : World) : (Instr.field 173 (.agg #[a, b, c, d, e]) 0).run Tryz.prog w = .ok (.agg #[a, b, c]) w := by kernel_rfl
theorem HI (m : aS) (k j : Nat) (h : br) (g : io) (w : World) (hR : m.R w) (hh : m.hs[k]? = some h) (hj : h.l.length = j + 1) (OC : j ≤ 1000000) (hg : h.l[j]? = some g) : Calls Tryz.prog 74 #[(.agg #[.slice (m).pA (m).hs.length (m).pc, .slice (m).vA (m).vs.length (m).vc]), .int .i64 k] w (cd (.tuple #[(qg g.x), .bool true]) w) := by
 have wZ : h.R m.hs.length w := hR.1.2.2.2 h (List.mem_of_getElem? hh);have Hh := aa wZ;have HR := aa hR;have HL := aa (fun W (hw : h.R m.hs.length W) => Fc m.hs.length h j g W hw hj OC hg);have HH := aa (fun W (hw : m.R W) => zK m k h W hw hh);clear hj hR wZ hh hg;have hfm := Fz;go_enter Tryz.func74, Tryz.ntmps74;go_wp2_with (first
  | (go_at_call 83; refine rB (HH.out _ (HR.out.below ae)) ?_; intro w1 hb1 ar aA hs1; (try simp at hs1); have iZ := zL w.heap.size w1; have zX := zL (w.heap.size + 1) w1; have Qj : w.heap.size + 1 < w1.heap.size + 1 := oM)
  | (go_at_call 84; refine rB (HL.out _ (Hh.out.below ae)) ?_; intro w2 hb2 aH aL hs2; (try simp at hs2); have lF := zL (w.heap.size + 1) w2))
 exact bodyPost_ret (v := .tuple #[(.agg #[.int .i64 (g.x).v, .int .u32 (g.x).r, .int .u32 (g.x).f]), .bool true]) (by simp [results, Tryz.results74, go_sem]; (try go_simp)) rfl ⟨rfl, ae⟩
end Go.Proofs.YtapjfhbonfehpaaGreatDoor
