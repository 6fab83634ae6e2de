/- Package history: New, Len, At, Last, Choose. -/
import Derived.Deep.RegionLaw
import Derived.Test.YtnnmenmifphadaaGreatDoorU10
import Derived.Test.YtnnmenmifphadaaGreatDoorU16
set_option linter.unusedSimpArgs false
set_option linter.unusedVariables false
set_option maxRecDepth 100000
set_option maxHeartbeats 40000000
namespace Go.Proofs.YtnnmenmifphadaaGreatDoor
open Go.RowKit Go.Maps
theorem hist_len (h : HistV) (w : World) : Calls Tryz.prog 46 #[(.agg #[.slice (h).A (h).l.length (h).cap])] w (Ret (.int .i64 h.l.length) w) := by
 go_enter Tryz.func46, Tryz.ntmps46
 go_wp2_with fail
 go_ret
 exact ⟨rfl, ab0⟩
theorem hist_elem {L : Nat} {w : World} {h : HistV} (hr : h.R L w) {k : Nat} {m : MsgV} (hm : h.l[k]? = some m) : ∃ b off, h.A = some ⟨b, off, none⟩ ∧ b < w.heap.size ∧ w.cell? ⟨b, off + k * 5, none⟩ = some (.int .i64 m.x.v) ∧ w.cell? ⟨b, off + k * 5 + 1, none⟩ = some (.int .u32 m.x.r) ∧ w.cell? ⟨b, off + k * 5 + 2, none⟩ = some (.int .u32 m.x.f) ∧ w.cell? ⟨b, off + k * 5 + 3, none⟩ = some (.int .i64 m.t) ∧ w.cell? ⟨b, off + k * 5 + 4, none⟩ = some (.map m.a.v) := by
 have hk : k < h.l.length := (List.getElem?_eq_some_iff.1 hm).1
 obtain ⟨b, off, e, hb, hc⟩ := Rd.elem hr.2.2.1 msgc_len hk hm
 exact ⟨b, off, e, hb, hc 0 _ rfl, hc 1 _ rfl, hc 2 _ rfl, hc 3 _ rfl, hc 4 _ rfl⟩
theorem hist_at (L : Nat) (h : HistV) (k : Nat) (m : MsgV) (w : World) (hr : h.R L w) (hm : h.l[k]? = some m) : Calls Tryz.prog 77 #[(.agg #[.slice (h).A (h).l.length (h).cap]), .int .i64 k] w (Ret (.tuple #[(.agg #[.int .i64 (m).x.v, .int .u32 (m).x.r, .int .u32 (m).x.f, .int .i64 (m).t, .map (m).a.v]), .bool true]) w) := by
 have hk : k < h.l.length := (List.getElem?_eq_some_iff.1 hm).1
 obtain ⟨b, off, e, hb, c0, c1, c2, c3, c4⟩ := hist_elem hr hm
 obtain ⟨A, cap, l⟩ := h
 obtain ⟨x, t, a⟩ := m
 simp only at e c0 c1 c2 c3 c4 hk
 subst e
 have hk0 : ¬ ((k : Int) < 0) := by omega
 have hk1 : (0 : Int) ≤ (k : Int) := by omega
 have hk2 : (k : Int) < (l.length : Int) := by omega
 have hk3 : ¬ ((l.length : Int) ≤ (k : Int)) := by omega
 clear hm hr
 go_enter Tryz.func77, Tryz.ntmps77
 go_wp2_with fail
 exact bodyPost_ret (v := .tuple #[(.agg #[.int .i64 (MsgV.mk x t a).x.v, .int .u32 (MsgV.mk x t a).x.r, .int .u32 (MsgV.mk x t a).x.f, .int .i64 (MsgV.mk x t a).t, .map (MsgV.mk x t a).a.v]), .bool true]) (by simp [results, Tryz.results77, go_sem]) rfl ⟨rfl, ab0⟩
theorem hist_last (L : Nat) (h : HistV) (k : Nat) (m : MsgV) (w : World) (hr : h.R L w) (hk : h.l.length = k + 1) (hk6 : k ≤ 1000000) (hm : h.l[k]? = some m) : Calls Tryz.prog 144 #[(.agg #[.slice (h).A (h).l.length (h).cap])] w (Ret (.agg #[.int .i64 (m).x.v, .int .u32 (m).x.r, .int .u32 (m).x.f, .int .i64 (m).t, .map (m).a.v]) w) := by
 have hsub : IntKind.i64.wrap ((h.l.length : Int) - 1) = (k : Int) := by rw [show (h.l.length : Int) - 1 = (k : Int) by omega]; exact IntWalk.i64_in _ oM
 have Hr := hide hr
 clear hr hk
 go_enter Tryz.func144, Tryz.ntmps144
 go_wp2_with (first
  | (go_at_call 77; refine (hist_at L h k m _ (Hr.out.below ab0) hm).mono ?_; rintro e w1 ⟨rfl, hb1⟩; obtain ⟨hcc1, hff1, hs1⟩ := bC hb1; (try simp at hs1); have hz4 : w.heap.size < w1.heap.size := oM; have hz5 : w.heap.size + 1 < w1.heap.size := oM))
 exact bodyPost_ret (v := (.agg #[.int .i64 (m).x.v, .int .u32 (m).x.r, .int .u32 (m).x.f, .int .i64 (m).t, .map (m).a.v])) (by simp [results, Tryz.results144, go_sem]; go_simp) rfl ⟨rfl, ab0⟩
def chooseL (n : Nat) (i c : Int) : Int := let last : Int := (n : Int) - 1; last - max c 0 % (last - max 0 (min i last) + 1)
theorem info_msg : (Tryz.prog.info? 170).map (fun i => (i.zero, i.size, i.bytes)) = some (some (.agg #[.int .i64 0, .int .u32 0, .int .u32 0, .int .i64 0, .map none]), 5, 32) := by kernel_rfl
theorem clipm_any (A : Option Addr) (m cp : Nat) (w : World) (h : m ≤ cp) :
  Calls Tryz.prog 177 #[.slice A m cp] w fun e w' => e = .returned (.slice A m m) ∧ w = w' := by
 go_enter Tryz.func177, Tryz.ntmps177
 go_wp2
 all_goals go_ret
 all_goals exact ⟨rfl, rfl⟩
theorem hist_add (L : Nat) (h : HistV) (m : MsgV) (w : World) (hr : h.R L w) (hm : m.a.R L w) (hn : h.l.length ≤ 1000000) : Calls Tryz.prog 168 #[(.agg #[.slice (h).A (h).l.length (h).cap]), (.agg #[.int .i64 (m).x.v, .int .u32 (m).x.r, .int .u32 (m).x.f, .int .i64 (m).t, .map (m).a.v])] w fun e w' => ∃ g cap', e = .returned (.agg #[.slice (some ⟨g, 0, none⟩) (h.l.length + 1) cap']) ∧ w.heap.size ≤ g ∧ HistV.R L w' ⟨some ⟨g, 0, none⟩, cap', h.l ++ [m]⟩ ∧ Below w.heap.size w w' := by
 obtain ⟨i0, hi, iz0, iz1, iz2⟩ := info_parts info_msg
 obtain ⟨A, cap, l⟩ := h
 obtain ⟨hc, hA, hrd, hv⟩ := hr
 simp only at hc hA hrd hv hn
 have Hr := hide hrd
 have HA := hide hA
 have Hv := hide hv
 have Hm := hide hm
 clear hrd hA hv hm
 go_enter Tryz.func168, Tryz.ntmps168
 go_wp2_with fail
 go_region_law (first
   | (refine step_append_new rfl (.tmp 7) (.tmp 9) 113 rfl 170 i0 _ 5 32 Tryz.underlying113 hi iz0 iz1 iz2 w.heap.size A l.length (l.flatMap msgc) (by simp [Act.eval, Act.put]) (Hr.out.below ab0) HA.out ⟨w.heap.size + 1 + 1 + 1, 0, none⟩ 1 (msgc m) (by simp [Act.eval, Act.put]) rfl ?_ (by unfold maxLen; omega) oM ?_; (focus (intro j u hu; exact alloc_cell _ _ _ sM hu)); intro cp' w2 hcp hrd2 hb2 hz3; obtain ⟨hcc2, hff2⟩ := bcell hb2)
   | (go_simp; go_at_call 177; refine (clipm_any A l.length cap _ hc).mono ?_; rintro e w3 ⟨rfl, rfl⟩))
 all_goals go_wp2_with fail
 all_goals have hs2 := hz3
 all_goals (try simp at hs2)
 all_goals have hzr : w.heap.size + 1 + 1 < w2.heap.size := by omega
 all_goals have e4 : w2.cell? ⟨w.heap.size + 1 + 1, 0, none⟩ = some (.slice none 0 0) := by go_simp
 all_goals have hB2 : Below w.heap.size w w2 := ab0
 all_goals have h7 := hrd2.out
 all_goals (try simp at h7)
 all_goals refine bodyPost_ret (v := .agg #[.slice (some ⟨w.heap.size + 1 + 1 + 1 + 1, 0, none⟩) (l.length + 1) cp']) (by simp [results, Tryz.results168, go_sem, e4]) rfl ⟨_, _, rfl, by omega, ⟨by simpa using hcp.out, (fun e => by cases e), ?_, ?_⟩, ab0⟩
 all_goals first
  |(intro x hx
    have hx' := List.mem_append.1 hx
    have hBw : Below w.heap.size w (w2.setCell ⟨w.heap.size + 1 + 1, 0, none⟩ (.slice (some ⟨w.heap.size + 1 + 1 + 1 + 1, 0, none⟩) (l.length + 1) cp')) := ab0
    rcases hx' with hx' | hx'
    ·exact (Hv.out x hx').below hBw
    ·obtain rfl := List.mem_singleton.1 hx'
     exact Hm.out.below hBw
    done)
  | skip
 all_goals with_reducible refine Rd.set_far ?_ oM _
 all_goals (show Rd w2 _ 5 _ (l ++ [m]).length ((l ++ [m]).flatMap msgc))
 all_goals rw [List.length_append, List.flatMap_append, List.flatMap_cons, List.flatMap_nil, List.append_nil]
 all_goals exact Rd.more h7 sM
theorem chooseL_of (n : Nat) (i c F C R : Int) (hF : F = max 0 (min i ((n : Int) - 1))) (hC : C = max c 0) (hR : R = (n : Int) - 1 - C % ((n : Int) - 1 - F + 1)) (h0 : 0 < n) (hn : n ≤ 1000000) : wrap64 R = chooseL n i c := by
 unfold chooseL
 simp only
 rw [← hF, ← hC, ← hR]
 have h1 : 0 ≤ C % ((n : Int) - 1 - F + 1) := Int.emod_nonneg _ oM
 have h2 : C % ((n : Int) - 1 - F + 1) < (n : Int) - 1 - F + 1 := Int.emod_lt_of_pos _ oM
 unfold wrap64
 omega
theorem hist_choose (h : HistV) (n : Nat) (i c : Int) (w : World) (hn : h.l.length = n) (h0 : 0 < n) (hn6 : n ≤ 1000000) (hc : (Lit.int .i64 c).wf = true) :
  Calls Tryz.prog 171 #[(.agg #[.slice (h).A (h).l.length (h).cap]), .int .i64 i, .int .i64 c] w (Ret (.int .i64 (chooseL n i c)) w) := by
 obtain ⟨A, cap, l⟩ := h
 simp only at hn
 have hsub : IntKind.i64.wrap ((l.length : Int) - 1) = (n : Int) - 1 := by rw [hn]; exact IntWalk.i64_in _ oM
 have hl0 : ¬ ((n : Int) - 1 < 0) := by omega
 have H0 := hide h0
 have H6 := hide hn6
 clear hn
 go_enter Tryz.func171, Tryz.ntmps171
 go_wp2_with fail
 all_goals go_ret
 all_goals refine ⟨congrArg (fun z => Ending.returned (Value.int IntKind.i64 z)) ?_, ab0⟩
 all_goals clear hc hsub hl0
 all_goals rename_i g1 g2
 all_goals have g3 := h
 all_goals clear h
 all_goals have z0 := H0.out
 all_goals by_cases z1 : (n : Int) - 1 < i
 all_goals (try rw [if_pos z1] at g1)
 all_goals (try rw [if_pos z1] at g2)
 all_goals (try rw [if_pos z1] at g3)
 all_goals (try rw [if_neg z1] at g1)
 all_goals (try rw [if_neg z1] at g2)
 all_goals (try rw [if_neg z1] at g3)
 all_goals first
  | (refine chooseL_of n i c ((n : Int) - 1) 0 _ ?_ ?_ ?_ H0.out H6.out <;> (first | omega | (simp; done)); done)
  | (refine chooseL_of n i c ((n : Int) - 1) c _ ?_ ?_ ?_ H0.out H6.out <;> (first | omega | (simp; done)); done)
  | (refine chooseL_of n i c i 0 _ ?_ ?_ ?_ H0.out H6.out <;> (first | omega | (simp; done)); done)
  | (refine chooseL_of n i c i c _ ?_ ?_ ?_ H0.out H6.out <;> (first | omega | (simp; done)); done)
  | (refine chooseL_of n i c 0 0 _ ?_ ?_ ?_ H0.out H6.out <;> (first | omega | (simp; done)); done)
  | (refine chooseL_of n i c 0 c _ ?_ ?_ ?_ H0.out H6.out <;> (first | omega | (simp; done)); done)
theorem mem_size (m : MemV) (w : World) : Calls Tryz.prog 90 #[(.agg #[.slice (m).pA (m).hs.length (m).pc, .slice (m).vA (m).vs.length (m).vc])] w (Ret (.tuple #[.int .i64 m.vs.length, .int .i64 m.hs.length]) w) := by
 go_enter Tryz.func90, Tryz.ntmps90
 go_wp2_with fail
 go_region
 all_goals go_wp2
 all_goals go_ret2
 all_goals exact ⟨rfl, ab0⟩
theorem mem_thread (m : MemV) (t : Int) (w : World) : Calls Tryz.prog 84 #[(.agg #[.slice (m).pA (m).hs.length (m).pc, .slice (m).vA (m).vs.length (m).vc]), .int .i64 t] w (Ret (.bool (decide (1 ≤ t) && decide (t ≤ (m.vs.length : Int)))) w) := by
 by_cases h1 : 1 ≤ t
 all_goals by_cases h2 : t ≤ (m.vs.length : Int)
 all_goals go_enter Tryz.func84, Tryz.ntmps84
 all_goals go_wp2_with fail
 all_goals go_ret
 all_goals exact ⟨by simp [h1, h2] <;> omega, ab0⟩
theorem mem_place (m : MemV) (z : Int) (w : World) : Calls Tryz.prog 83 #[(.agg #[.slice (m).pA (m).hs.length (m).pc, .slice (m).vA (m).vs.length (m).vc]), .int .i64 z] w (Ret (.bool (decide (0 ≤ z) && decide (z < (m.hs.length : Int)))) w) := by
 by_cases h1 : 0 ≤ z
 all_goals by_cases h2 : z < (m.hs.length : Int)
 all_goals go_enter Tryz.func83, Tryz.ntmps83
 all_goals go_wp2_with fail
 all_goals go_ret
 all_goals exact ⟨by simp [h1, h2] <;> omega, ab0⟩
theorem mem_wrong (m : MemV) (t z : Int) (w : World) (h1 : 1 ≤ t) (h2 : t ≤ (m.vs.length : Int)) (h3 : 0 ≤ z) (h4 : z < (m.hs.length : Int)) : Calls Tryz.prog 155 #[(.agg #[.slice (m).pA (m).hs.length (m).pc, .slice (m).vA (m).vs.length (m).vc]), .int .i64 t, .int .i64 z] w (Ret (.int .i64 0) w) := by
 have ht := fun W => mem_thread m t W
 rw [show (decide (1 ≤ t) && decide (t ≤ (m.vs.length : Int))) = true by simp [h1, h2]] at ht
 have hp := fun W => mem_place m z W
 rw [show (decide (0 ≤ z) && decide (z < (m.hs.length : Int))) = true by simp [h3, h4]] at hp
 have Ht := hide ht
 have Hp := hide hp
 clear ht hp
 go_enter Tryz.func155, Tryz.ntmps155
 go_wp2_with (first
  | (go_at_call 84; refine (Ht.out _).mono ?_; rintro e w1 ⟨rfl, hb1⟩; obtain ⟨hcc1, hff1, hs1⟩ := bC hb1; (try simp at hs1); have hz4 : w.heap.size < w1.heap.size := oM)
  | (go_at_call 83; refine (Hp.out _).mono ?_; rintro e w2 ⟨rfl, hb2⟩; obtain ⟨hcc2, hff2, hs2⟩ := bC hb2; (try simp at hs2)))
 go_ret
 exact ⟨rfl, ab0⟩
theorem mem_seen (m : MemV) (t : Nat) (a : VwV) (w : World) (hR : m.R w) (ha : m.vs[t]? = some a) (hn : m.vs.length ≤ 1000) : Calls Tryz.prog 47 #[(.agg #[.slice (m).pA (m).hs.length (m).pc, .slice (m).vA (m).vs.length (m).vc]), .int .i64 ((t : Int) + 1)] w (Ret (.agg #[.map a.v]) w) := by
 have htn : t < m.vs.length := (List.getElem?_eq_some_iff.1 ha).1
 obtain ⟨b, off, e, hb, c0⟩ := Rd.one hR.2.2.2.1 htn ha
 have ht := fun W => mem_thread m ((t : Int) + 1) W
 rw [show (decide (1 ≤ (t : Int) + 1) && decide ((t : Int) + 1 ≤ (m.vs.length : Int))) = true by simp; omega] at ht
 have Ht := hide ht
 obtain ⟨pA, pc, hs, vA, vc, vs⟩ := m
 simp only at e htn hn
 subst e
 have h0 : (0 : Int) ≤ (t : Int) := by omega
 have h1 : (t : Int) < (vs.length : Int) := by omega
 have hw : IntKind.i64.wrap ((t : Int) + 1 - 1) = (t : Int) := by rw [show (t : Int) + 1 - 1 = (t : Int) by omega]; exact IntWalk.i64_in _ oM
 have hw2 : IntKind.i64.wrap (t : Int) = (t : Int) := IntWalk.i64_in _ oM
 unfold vwv at c0
 have hbz1 : b < w.heap.size + 1 := by omega
 have hbz2 : b < w.heap.size + 1 + 1 := by omega
 clear ht hR ha
 go_enter Tryz.func47, Tryz.ntmps47
 go_wp2_with (first | (go_at_call 84; refine (Ht.out _).mono ?_; rintro e w1 ⟨rfl, hb1⟩; obtain ⟨hcc1, hff1, hs1⟩ := bC hb1; (try simp at hs1); have hz4 : w.heap.size < w1.heap.size := oM))
 exact bodyPost_ret (v := .agg #[.map a.v]) (by simp [results, Tryz.results47, go_sem]; (try go_simp)) rfl ⟨rfl, ab0⟩
theorem mem_history (m : MemV) (k : Nat) (h : HistV) (w : World) (hR : m.R w) (hh : m.hs[k]? = some h) : Calls Tryz.prog 45 #[(.agg #[.slice (m).pA (m).hs.length (m).pc, .slice (m).vA (m).vs.length (m).vc]), .int .i64 k] w (Ret (.tuple #[(.agg #[.slice (h).A (h).l.length (h).cap]), .bool true]) w) := by
 have htn : k < m.hs.length := (List.getElem?_eq_some_iff.1 hh).1
 obtain ⟨b, off, e, hb, c0⟩ := Rd.one hR.1.2.2.1 htn hh
 have ht := fun W => mem_place m k W
 rw [show (decide (0 ≤ (k : Int)) && decide ((k : Int) < (m.hs.length : Int))) = true by simp; omega] at ht
 have Ht := hide ht
 obtain ⟨pA, pc, hs, vA, vc, vs⟩ := m
 simp only at e htn
 subst e
 have h0 : (0 : Int) ≤ (k : Int) := by omega
 have h1 : (k : Int) < (hs.length : Int) := by omega
 unfold histv at c0
 have hbz1 : b < w.heap.size + 1 := by omega
 have hbz2 : b < w.heap.size + 1 + 1 := by omega
 clear ht hR hh
 go_enter Tryz.func45, Tryz.ntmps45
 go_wp2_with (first | (go_at_call 83; refine (Ht.out _).mono ?_; rintro e w1 ⟨rfl, hb1⟩; obtain ⟨hcc1, hff1, hs1⟩ := bC hb1; (try simp at hs1); have hz4 : w.heap.size < w1.heap.size := oM))
 exact bodyPost_ret (v := .tuple #[(.agg #[.slice (h).A (h).l.length (h).cap]), .bool true]) (by simp [results, Tryz.results45, go_sem]; (try go_simp)) rfl ⟨rfl, ab0⟩
theorem field_msg (a b c d e : Value) (w : World) : (Instr.field 170 (.agg #[a, b, c, d, e]) 0).run Tryz.prog w = .ok (.agg #[a, b, c]) w := by kernel_rfl
theorem mem_last (m : MemV) (k j : Nat) (h : HistV) (g : MsgV) (w : World) (hR : m.R w) (hh : m.hs[k]? = some h) (hj : h.l.length = j + 1) (hj6 : j ≤ 1000000) (hg : h.l[j]? = some g) : Calls Tryz.prog 115 #[(.agg #[.slice (m).pA (m).hs.length (m).pc, .slice (m).vA (m).vs.length (m).vc]), .int .i64 k] w (Ret (.tuple #[(w3V g.x), .bool true]) w) := by
 have hhR : h.R m.hs.length w := hR.1.2.2.2 h (List.mem_of_getElem? hh)
 have Hh := hide hhR
 have HR := hide hR
 have HL := hide (fun W (hw : h.R m.hs.length W) => hist_last m.hs.length h j g W hw hj hj6 hg)
 have HH := hide (fun W (hw : m.R W) => mem_history m k h W hw hh)
 clear hj hR hhR hh hg
 have hfm := field_msg
 go_enter Tryz.func115, Tryz.ntmps115
 go_wp2_with (first
  | (go_at_call 45; refine (HH.out _ (HR.out.below ab0)).mono ?_; rintro e w1 ⟨rfl, hb1⟩; obtain ⟨hcc1, hff1, hs1⟩ := bC hb1; (try simp at hs1); have hz4 : w.heap.size < w1.heap.size := oM; have hz6 : w.heap.size + 1 < w1.heap.size := oM; have hz7 : w.heap.size + 1 < w1.heap.size + 1 := oM)
  | (go_at_call 144; refine (HL.out _ (Hh.out.below ab0)).mono ?_; rintro e w2 ⟨rfl, hb2⟩; obtain ⟨hcc2, hff2, hs2⟩ := bC hb2; (try simp at hs2); have hz5 : w.heap.size + 1 < w2.heap.size := oM))
 exact bodyPost_ret (v := .tuple #[(.agg #[.int .i64 (g.x).v, .int .u32 (g.x).r, .int .u32 (g.x).f]), .bool true]) (by simp [results, Tryz.results115, go_sem]; (try go_simp)) rfl ⟨rfl, ab0⟩
end Go.Proofs.YtnnmenmifphadaaGreatDoor
