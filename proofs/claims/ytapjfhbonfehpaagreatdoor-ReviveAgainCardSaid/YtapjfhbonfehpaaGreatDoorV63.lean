/- Package desc: Read. -/
import Derived.Deep.DeepCutAuto
import Derived.Test.YtapjfhbonfehpaaGreatDoorV17
import Derived.Test.YtapjfhbonfehpaaGreatDoorV18
set_option linter.unusedSimpArgs false
set_option linter.unusedVariables false
set_option maxRecDepth 100000
set_option maxHeartbeats 40000000
namespace Go.Proofs.YtapjfhbonfehpaaGreatDoor
open Go.RowKit
theorem qT (T C B : Int) : ah T C B 7 = ah T C B 4 + 104 * T + (if 0 < B then 8 else 0) + 32 * B ∧ ah T C B 6 = ah T C B 4 + 104 * T + (if 0 < B then 8 else 0) := by
 have a6 : ah T C B 7 = ah T C B 6 + 32 * B := rfl;have a5 : ah T C B 6 = ah T C B 5 + (if 0 < B then 8 else 0) := rfl;have a4 : ah T C B 5 = ah T C B 4 + 104 * T := rfl;generalize (if 0 < B then (8 : Int) else 0) = X at *;omega
theorem kv (T C B who : Int) (hv : aC T C B) (hn : aD T C B who ≠ 0) : ∃ p : Nat, aF T C B who = p ∧ (p : Int) + 2 + 3 * aD T C B who ≤ ah T C B 7 ∧ aD T C B who ≤ 32 ∧ 0 < aD T C B who := by
 obtain ⟨e7, e6⟩ := qT T C B;obtain ⟨f1, f2, f3, f4, f5, f6⟩ := hv.1;have g4 := (fC T C B hv.1 4).1;have hx : (if 0 < B then (8 : Int) else 0) ≥ 0 := by split <;> omega
 unfold aD at hn ⊢;unfold aF;by_cases hneg : iW T C B who < 0
 ·rw [if_pos hneg] at hn;exact absurd rfl hn
 simp only [if_neg hneg] at hn ⊢;refine ⟨(iW T C B who).toNat, by omega, ?_, by split <;> omega, by split <;> omega⟩;rw [Int.toNat_of_nonneg oM];unfold iW at hneg ⊢;by_cases h9 : 9 ≤ who
 ·simp only [if_pos h9] at hneg ⊢;unfold fG at hneg ⊢;split
  ·rename_i h;rw [show gq 6 = 32 from rfl, e7, e6];have := h.2;simp only [bg, List.getD_cons_zero, List.getD_cons_succ] at this;omega
  ·rename_i h;rw [if_neg h] at hneg;omega
 ·simp only [if_neg h9] at hneg ⊢;unfold fG at hneg ⊢;split
  ·rename_i h;rw [show gq 4 = 104 from rfl, e7];have := h.2;simp only [bg, List.getD_cons_zero, List.getD_cons_succ] at this;omega
  ·rename_i h;rw [if_neg h] at hneg;omega
def dQ (ws : List W3) (p : Nat) : Nat → Option (List En)
 | 0 => some []
 | k + 1 => match dQ ws p k with
  | none => none
  | some es => if (dN (ws.getD (p + 2 + 3 * k) z3) (ws.getD (p + 2 + 3 * k + 1) z3) (ws.getD (p + 2 + 3 * k + 2) z3)).2 = true then some (es ++ [(dN (ws.getD (p + 2 + 3 * k) z3) (ws.getD (p + 2 + 3 * k + 1) z3) (ws.getD (p + 2 + 3 * k + 2) z3)).1]) else none
def mF (s c : W3) (most : Int) : Bool := decide (0 ≤ s.v) && decide (s.v ≤ 3) && (s.f == 0) && decide (1 ≤ c.v) && decide (c.v ≤ most) && ql c ⟨c.v, 0, 0⟩
def gK (T C B : Int) (ws : List W3) (who : Int) : Option (Int × Int × List En) :=
 if aD T C B who = 0 then none
 else if mF (ws.getD (aF T C B who).toNat z3) (ws.getD ((aF T C B who).toNat + 1) z3) (aD T C B who) = true then
  match dQ ws (aF T C B who).toNat (ws.getD ((aF T C B who).toNat + 1) z3).v.toNat with
  | none => none
  | some es => if eu T C B who (ws.getD (aF T C B who).toNat z3).r (ws.getD (aF T C B who).toNat z3).v es = 0 then some ((ws.getD (aF T C B who).toNat z3).r, (ws.getD (aF T C B who).toNat z3).v, es) else none
 else none
def mO (who : Int) (r : Option (Int × Int × List En)) (w : World) (e : Ending) (w' : World) : Prop :=
 match r with
 | none => ∃ er : Int, er ≠ 0 ∧ e = .returned (.tuple #[.agg #[.int .i64 0, .int .i64 0, .int .i64 0, .slice none 0 0], .int .i64 er]) ∧ Below w.heap.size w w'
 | some (seq, st, es) => ∃ (A : Option Addr) (cap : Nat), e = .returned (.tuple #[.agg #[.int .i64 who, .int .i64 seq, .int .i64 st, .slice A es.length cap], .int .i64 0]) ∧ Rd w' w'.heap.size 6 A es.length (es.flatMap ec) ∧ es.length ≤ cap ∧ Below w.heap.size w w'
theorem NG (T C B who P : Int) (b n cap : Nat) (ws : List W3) (w : World) (hv : aC T C B) (hs : ai w) (h0 : -1000 ≤ who) (h1 : who ≤ 1000) (hM : Mem b ws w) (hl : ws.length = n) (hn : ah T C B 7 ≤ n) (hP : aF T C B who = P) (hN : aD T C B who = 0) :
  Calls Tryz.prog 46 #[(.agg #[.int .i64 T, .int .i64 C, .int .i64 B]), .slice (some ⟨b, 0, none⟩) n cap, .int .i64 who] w (cd (.tuple #[.agg #[.int .i64 0, .int .i64 0, .int .i64 0, .slice none 0 0], .int .i64 3]) w) := by
 have hp := hs.pos;have hb := hM.2.2;have HP := aa hP;have HN := aa hN;have hnn : ¬ ((n : Int) < ah T C B 7) := by omega
 have hb' : b < w.heap.size + 1 := by omega
 have OU : b < w.heap.size + 1 + 1 := by omega
 clear hP hN hM;go_enter Tryz.func46, Tryz.ntmps46;go_wp2_with (first
  | (go_at_call 18; refine rB (cZ T C B _ hv (hs.below ae)) ?_; intro w1 hb1 ar aA hs1; (try simp at hs1); have hz1 := zL w.heap.size w1; have hy1 := zL (w.heap.size + 1) w1; have hq1 := zL 0 w1; have hv1 := zL b w1)
  | (go_at_call 19; refine rB (fM T C B _ hv (hs.below ae)) ?_; intro w2 hb2 aH aL hs2; (try simp at hs2); have hz2 := zL w.heap.size w2; have hy2 := zL (w.heap.size + 1) w2; have hq2 := zL 0 w2; have hv2 := zL b w2)
  | (go_at_call 14; refine (dC T C B who _ hv (hs.below ae) h0 h1).mono ?_; rintro e w3 ⟨rfl, hb3⟩; rw [HP.out, HN.out]; obtain ⟨cN, cH, hs3⟩ := bC hb3; (try simp at hs3); have hz3 := zL w.heap.size w3; have nN := zL (w.heap.size + 1) w3; have hq3 := zL 0 w3; have hv3 := zL b w3))
 have r0 := cI w3 (w.heap.size + 1) 0 0;have r1 := cI w3 (w.heap.size + 1) 1 0;have r2 := cI w3 (w.heap.size + 1) 2 0;have r3 := cE w3 (w.heap.size + 1) 3 (.slice none 0 0);exact bodyPost_ret (v := .tuple #[.agg #[.int .i64 0, .int .i64 0, .int .i64 0, .slice none 0 0], .int .i64 3]) (by simp [results, Tryz.results46, go_sem, r0, r1, r2, r3]) rfl ⟨rfl, ae⟩
theorem Mr {p : Prop} (h : p := by
 skip;go_wp2_with fail;exact bodyPost_ret (v := .tuple #[.agg #[.int .i64 0, .int .i64 0, .int .i64 0, .slice none 0 0], .int .i64 5]) (by simp [results, Tryz.results46, go_sem, GZ, GY, MI, MH]) rfl (by rw [HQ.out]; exact ⟨5, by decide, rfl, ae⟩)) : p := h
end Go.Proofs.YtapjfhbonfehpaaGreatDoor
