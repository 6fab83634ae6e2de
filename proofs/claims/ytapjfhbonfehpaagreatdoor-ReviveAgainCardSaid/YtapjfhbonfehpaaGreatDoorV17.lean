/- Package desc: Status, Pack, Unpack. -/
import Derived.Test.YtapjfhbonfehpaaGreatDoorV09
import Derived.Test.YtapjfhbonfehpaaGreatDoorV14
set_option linter.unusedSimpArgs false
set_option linter.unusedVariables false
set_option maxRecDepth 100000
set_option maxHeartbeats 40000000
namespace Go.Proofs.YtapjfhbonfehpaaGreatDoor
open Go.RowKit
theorem Iq : ∃ i, Tryz.prog.info? 56 = some i := by
 have h : (Tryz.prog.info? 56).isSome = true := by kernel_rfl
 exact Option.isSome_iff_exists.1 h
theorem FR : Tryz.prog.cellsOf 56 = 3 := by kernel_rfl
theorem N0 (x y z x' y' z' : W3) (w : World) : (binOp .neq 105 (.agg #[.int .i64 (x).v, .int .u32 (x).r, .int .u32 (x).f, .int .i64 (y).v, .int .u32 (y).r, .int .u32 (y).f, .int .i64 (z).v, .int .u32 (z).r, .int .u32 (z).f]) (.agg #[.int .i64 (x').v, .int .u32 (x').r, .int .u32 (x').f, .int .i64 (y').v, .int .u32 (y').r, .int .u32 (y').f, .int .i64 (z').v, .int .u32 (z').r, .int .u32 (z').f])).run Tryz.prog w = .ok (.bool (!(ql x x' && (ql y y' && ql z z')))) w := by
 obtain ⟨i, hi⟩ := Iq;rw [run_neq_struct, run_equalIn_array w 9999 _ _ Tryz.underlying105 hi, FR];have e1 := UA 9997 x.v x.r x.f x'.v x'.r x'.f;have e2 := UA 9997 y.v y.r y.f y'.v y'.r y'.f;have e3 := UA 9997 z.v z.r z.f z'.v z'.r z'.f;simp only [show 9997 + 2 = 9999 from rfl] at e1 e2 e3;cases h1 : ql x x' <;> cases h2 : ql y y' <;> cases h3 : ql z z' <;> (unfold ql at h1 h2 h3; rw [h1] at e1; rw [h2] at e2; rw [h3] at e3; simp [Op.eqItems, List.range_succ, go_sem, Result.andThen, e1, e2, e3])
def dW (e : En) : W3 × W3 × W3 := (⟨e.a, if e.w then 1 else 0, 0⟩, ⟨e.o.v, e.o.r, 0⟩, ⟨e.n, 0, 0⟩)
theorem zD (e : En) (w : World) : Calls Tryz.prog 39 #[(.agg #[.int .i64 (e).a, .int .i64 (e).o.v, .int .u32 (e).o.r, .int .u32 (e).o.f, .int .i64 (e).n, .bool (e).w])] w fun r w' => r = .returned (.agg #[.int .i64 ((dW e).1).v, .int .u32 ((dW e).1).r, .int .u32 ((dW e).1).f, .int .i64 ((dW e).2.1).v, .int .u32 ((dW e).2.1).r, .int .u32 ((dW e).2.1).f, .int .i64 ((dW e).2.2).v, .int .u32 ((dW e).2.2).r, .int .u32 ((dW e).2.2).f]) ∧ Below w.heap.size w w' := by
 obtain ⟨a, ⟨v, r, f⟩, n, b⟩ := e;cases b with
 | true =>
  go_enter Tryz.func39, Tryz.ntmps39;go_wp2_with fail;exact bodyPost_ret (v := .agg #[.int .i64 a, .int .u32 1, .int .u32 0, .int .i64 v, .int .u32 r, .int .u32 0, .int .i64 n, .int .u32 0, .int .u32 0]) (by simp [results, Tryz.results39, go_sem]) rfl ⟨rfl, ae⟩
 | false =>
  go_enter Tryz.func39, Tryz.ntmps39;go_wp2_with fail;exact bodyPost_ret (v := .agg #[.int .i64 a, .int .u32 0, .int .u32 0, .int .i64 v, .int .u32 r, .int .u32 0, .int .i64 n, .int .u32 0, .int .u32 0]) (by simp [results, Tryz.results39, go_sem]) rfl ⟨rfl, ae⟩
theorem sU (st seq : Int) (w : World) (h0 : 0 ≤ seq) (h1 : seq < 4294967296) : Calls Tryz.prog 38 #[.int .i64 st, .int .i64 seq] w fun r w' => r = .returned (.agg #[.int .i64 st, .int .u32 seq, .int .u32 0]) ∧ Below w.heap.size w w' := by
 have hw : IntKind.u32.wrap seq = seq := IntWalk.u32_in seq oM;go_enter Tryz.func38, Tryz.ntmps38;go_wp2_with fail;exact bodyPost_ret (v := .agg #[.int .i64 st, .int .u32 seq, .int .u32 0]) (by simp [results, Tryz.results38, go_sem, hw]) rfl ⟨rfl, ae⟩
def xm : En := ⟨0, ⟨0, 0, 0⟩, 0, false⟩
def di (x y z : W3) : En := ⟨x.v, y, z.v, x.r == 1⟩
def Jt (x y z : W3) : Bool := ql (dW (di x y z)).1 x && (ql (dW (di x y z)).2.1 y && ql (dW (di x y z)).2.2 z)
def dN (x y z : W3) : En × Bool := if x.v < 0 ∨ 4096 ≤ x.v then (xm, false) else if Jt x y z = true then (di x y z, true) else (xm, false)
theorem zi (a b c a' b' c' a2 b2 c2 : Int) (w : World) (q : Bool) (h0 : 0 ≤ a) (h1 : a < 4096) (hq : Jt ⟨a, b, c⟩ ⟨a', b', c'⟩ ⟨a2, b2, c2⟩ = q) : Calls Tryz.prog 64 #[.agg #[.int .i64 a, .int .u32 b, .int .u32 c, .int .i64 a', .int .u32 b', .int .u32 c', .int .i64 a2, .int .u32 b2, .int .u32 c2]] w fun r w' => r = .returned (.tuple #[.agg #[.int .i64 ((if q then di ⟨a, b, c⟩ ⟨a', b', c'⟩ ⟨a2, b2, c2⟩ else xm)).a, .int .i64 ((if q then di ⟨a, b, c⟩ ⟨a', b', c'⟩ ⟨a2, b2, c2⟩ else xm)).o.v, .int .u32 ((if q then di ⟨a, b, c⟩ ⟨a', b', c'⟩ ⟨a2, b2, c2⟩ else xm)).o.r, .int .u32 ((if q then di ⟨a, b, c⟩ ⟨a', b', c'⟩ ⟨a2, b2, c2⟩ else xm)).o.f, .int .i64 ((if q then di ⟨a, b, c⟩ ⟨a', b', c'⟩ ⟨a2, b2, c2⟩ else xm)).n, .bool ((if q then di ⟨a, b, c⟩ ⟨a', b', c'⟩ ⟨a2, b2, c2⟩ else xm)).w], .bool q]) ∧ Below w.heap.size w w' := by
 have hn := N0 (dW (di ⟨a, b, c⟩ ⟨a', b', c'⟩ ⟨a2, b2, c2⟩)).1 (dW (di ⟨a, b, c⟩ ⟨a', b', c'⟩ ⟨a2, b2, c2⟩)).2.1 (dW (di ⟨a, b, c⟩ ⟨a', b', c'⟩ ⟨a2, b2, c2⟩)).2.2 ⟨a, b, c⟩ ⟨a', b', c'⟩ ⟨a2, b2, c2⟩;have hq' : (ql (dW (di ⟨a, b, c⟩ ⟨a', b', c'⟩ ⟨a2, b2, c2⟩)).1 ⟨a, b, c⟩ && (ql (dW (di ⟨a, b, c⟩ ⟨a', b', c'⟩ ⟨a2, b2, c2⟩)).2.1 ⟨a', b', c'⟩ && ql (dW (di ⟨a, b, c⟩ ⟨a', b', c'⟩ ⟨a2, b2, c2⟩)).2.2 ⟨a2, b2, c2⟩)) = q := hq;have Hp := aa (fun W => zD (di ⟨a, b, c⟩ ⟨a', b', c'⟩ ⟨a2, b2, c2⟩) W);simp only [hq'] at hn;obtain ⟨P1, hP1⟩ : ∃ P, P = (dW (di ⟨a, b, c⟩ ⟨a', b', c'⟩ ⟨a2, b2, c2⟩)).1 := ⟨_, rfl⟩;obtain ⟨P2, hP2⟩ : ∃ P, P = (dW (di ⟨a, b, c⟩ ⟨a', b', c'⟩ ⟨a2, b2, c2⟩)).2.1 := ⟨_, rfl⟩;obtain ⟨P3, hP3⟩ : ∃ P, P = (dW (di ⟨a, b, c⟩ ⟨a', b', c'⟩ ⟨a2, b2, c2⟩)).2.2 := ⟨_, rfl⟩;rw [← hP1, ← hP2, ← hP3] at hn;have H1 := aa hP1;have H2 := aa hP2;have H3 := aa hP3;clear hq hq' hP1 hP2 hP3;go_enter Tryz.func64, Tryz.ntmps64;go_wp2_with fail
 go_region_held3 (fun w' => w'.cell? ⟨w.heap.size, 0, none⟩ = some (.int .i64 a) ∧ w'.cell? ⟨w.heap.size, 1, none⟩ = some (.int .u32 b) ∧ w'.cell? ⟨w.heap.size, 2, none⟩ = some (.int .u32 c) ∧ w'.cell? ⟨w.heap.size, 3, none⟩ = some (.int .i64 a') ∧ w'.cell? ⟨w.heap.size, 4, none⟩ = some (.int .u32 b') ∧ w'.cell? ⟨w.heap.size, 5, none⟩ = some (.int .u32 c') ∧ w'.cell? ⟨w.heap.size, 6, none⟩ = some (.int .i64 a2) ∧ w'.cell? ⟨w.heap.size, 7, none⟩ = some (.int .u32 b2) ∧ w'.cell? ⟨w.heap.size, 8, none⟩ = some (.int .u32 c2) ∧ w'.cell? ⟨w.heap.size + 1 + 1, 0, none⟩ = some (.int .i64 a) ∧ w'.cell? ⟨w.heap.size + 1 + 1, 1, none⟩ = some (.int .i64 a') ∧ w'.cell? ⟨w.heap.size + 1 + 1, 2, none⟩ = some (.int .u32 b') ∧ w'.cell? ⟨w.heap.size + 1 + 1, 3, none⟩ = some (.int .u32 c') ∧ w'.cell? ⟨w.heap.size + 1 + 1, 4, none⟩ = some (.int .i64 a2) ∧ w'.cell? ⟨w.heap.size + 1 + 1, 5, none⟩ = some (.bool (b == 1)))
  (first | exact ⟨by go_simp, by go_simp, by go_simp, by go_simp, by go_simp, by go_simp, by go_simp, by go_simp, by go_simp, by go_simp, by go_simp, by go_simp, by go_simp, by go_simp, by go_simp⟩ | go_keep)
  (first | (go_at_call 39; refine (Hp.out _).mono ?_; rintro e w1 ⟨rfl, i7⟩; rw [← H1.out, ← H2.out, ← H3.out]; have hb1 : Below _ _ w1 := si; clear i7; obtain ⟨ar, aA, hs1⟩ := bC hb1; (try simp at hs1); have hz1 := zL w.heap.size w1; have hy1 := zL (w.heap.size + 1) w1; have hx1 := zL (w.heap.size + 1 + 1) w1))
 all_goals have p0 : ∀ o, w1.frozen? ⟨w.heap.size + 1, o, none⟩ = false := fun o => by rw [aA _ _ sM]; go_simp
 all_goals have r0 := cI w1 (w.heap.size + 1) 0 0
 all_goals have r1 := cI w1 (w.heap.size + 1) 1 0
 all_goals have r2 := cE w1 (w.heap.size + 1) 2 (.int .u32 0)
 all_goals have r3 := cE w1 (w.heap.size + 1) 3 (.int .u32 0)
 all_goals have r4 := cI w1 (w.heap.size + 1) 4 0
 all_goals have r5 := cE w1 (w.heap.size + 1) 5 (.bool false)
 all_goals cases q
 all_goals go_wp2_with fail
 ·exact bodyPost_ret (v := .tuple #[.agg #[.int .i64 0, .int .i64 0, .int .u32 0, .int .u32 0, .int .i64 0, .bool false], .bool false]) (by simp [results, Tryz.results64, go_sem, r0, r1, r2, r3, r4, r5]) rfl ⟨rfl, ae⟩
 ·exact bodyPost_ret (v := .tuple #[.agg #[.int .i64 a, .int .i64 a', .int .u32 b', .int .u32 c', .int .i64 a2, .bool (b == 1)], .bool true]) (by simp [results, Tryz.results64, go_sem, r0, r1, r2, r3, r4, r5]) rfl ⟨rfl, ae⟩
theorem Gr (a b c a' b' c' a2 b2 c2 : Int) (w : World) (h : a < 0) : Calls Tryz.prog 64 #[.agg #[.int .i64 a, .int .u32 b, .int .u32 c, .int .i64 a', .int .u32 b', .int .u32 c', .int .i64 a2, .int .u32 b2, .int .u32 c2]] w fun r w' => r = .returned (.tuple #[.agg #[.int .i64 (xm).a, .int .i64 (xm).o.v, .int .u32 (xm).o.r, .int .u32 (xm).o.f, .int .i64 (xm).n, .bool (xm).w], .bool false]) ∧ Below w.heap.size w w' := by
 go_enter Tryz.func64, Tryz.ntmps64;go_wp2_with fail;exact bodyPost_ret (v := .tuple #[.agg #[.int .i64 0, .int .i64 0, .int .u32 0, .int .u32 0, .int .i64 0, .bool false], .bool false]) (by simp [results, Tryz.results64, go_sem]) rfl ⟨rfl, ae⟩
theorem Gq (a b c a' b' c' a2 b2 c2 : Int) (w : World) (h : 4096 ≤ a) : Calls Tryz.prog 64 #[.agg #[.int .i64 a, .int .u32 b, .int .u32 c, .int .i64 a', .int .u32 b', .int .u32 c', .int .i64 a2, .int .u32 b2, .int .u32 c2]] w fun r w' => r = .returned (.tuple #[.agg #[.int .i64 (xm).a, .int .i64 (xm).o.v, .int .u32 (xm).o.r, .int .u32 (xm).o.f, .int .i64 (xm).n, .bool (xm).w], .bool false]) ∧ Below w.heap.size w w' := by
 have h0 : ¬ a < 0 := by omega
 go_enter Tryz.func64, Tryz.ntmps64;go_wp2_with fail;exact bodyPost_ret (v := .tuple #[.agg #[.int .i64 0, .int .i64 0, .int .u32 0, .int .u32 0, .int .i64 0, .bool false], .bool false]) (by simp [results, Tryz.results64, go_sem]) rfl ⟨rfl, ae⟩
theorem Bt (x y z : W3) (w : World) : Calls Tryz.prog 64 #[.agg #[.int .i64 (x).v, .int .u32 (x).r, .int .u32 (x).f, .int .i64 (y).v, .int .u32 (y).r, .int .u32 (y).f, .int .i64 (z).v, .int .u32 (z).r, .int .u32 (z).f]] w fun r w' => r = .returned (.tuple #[.agg #[.int .i64 ((dN x y z).1).a, .int .i64 ((dN x y z).1).o.v, .int .u32 ((dN x y z).1).o.r, .int .u32 ((dN x y z).1).o.f, .int .i64 ((dN x y z).1).n, .bool ((dN x y z).1).w], .bool (dN x y z).2]) ∧ Below w.heap.size w w' := by
 obtain ⟨a, b, c⟩ := x;obtain ⟨a', b', c'⟩ := y;obtain ⟨a2, b2, c2⟩ := z;unfold dN;simp only [];by_cases h1 : a < 0
 ·rw [if_pos (Or.inl h1)];exact Gr a b c a' b' c' a2 b2 c2 w h1
 by_cases h2 : 4096 ≤ a
 ·rw [if_pos (Or.inr h2)];exact Gq a b c a' b' c' a2 b2 c2 w h2
 rw [if_neg oM];cases hq : Jt ⟨a, b, c⟩ ⟨a', b', c'⟩ ⟨a2, b2, c2⟩ with
 | true =>
  rw [if_pos rfl];exact zi a b c a' b' c' a2 b2 c2 w true oM oM hq
 | false =>
  rw [if_neg sM];exact zi a b c a' b' c' a2 b2 c2 w false oM oM hq
theorem Gx : Tryz.prog.stoodInHeld 71 = false := by kernel_rfl
theorem xi : Tryz.prog.fieldsOf 71 = #[⟨"Err", 36, 0, false, "", "", 0⟩, ⟨"Val", 2, 1, false, "", "", 8⟩] := by simp [Program.fieldsOf, Tryz.underlying71]
theorem UC (d : Nat) (a b : Int) (w : World) : (Op.equalIn (d + 2) 71 (.agg #[.int .i64 a, .int .i64 b]) (.agg #[.int .i64 a, .int .i64 b])).run Tryz.prog w = .ok true w := by
 rw [run_equalIn_struct w (d + 1) 71 _ _ (by rw [xi]; exact Tryz.underlying71) Gx, xi];simp [Op.eqFields, go_sem, Result.andThen]
theorem JE : Tryz.prog.cellsOf 71 = 2 := by kernel_rfl
theorem Gw : Tryz.prog.stoodInHeld 73 = false := by kernel_rfl
theorem xh : Tryz.prog.fieldsOf 73 = #[⟨"Thread", 3, 0, false, "", "", 0⟩, ⟨"Number", 2, 1, false, "", "", 8⟩, ⟨"Answer", 71, 2, false, "", "", 16⟩] := by simp [Program.fieldsOf, Tryz.underlying73]
theorem Ps (t n a b : Int) (w : World) : (Op.equalIn 10000 73 (.agg #[.int .i64 t, .int .i64 n, .int .i64 a, .int .i64 b]) (.agg #[.int .i64 t, .int .i64 n, .int .i64 a, .int .i64 b])).run Tryz.prog w = .ok true w := by
 rw [run_equalIn_struct w 9999 73 _ _ (by rw [xh]; exact Tryz.underlying73) Gw, xh];have e := UC 9997 a b;simp only [show 9997 + 2 = 9999 from rfl] at e;obtain ⟨i, hi⟩ : ∃ i, Tryz.prog.info? 71 = some i := Option.isSome_iff_exists.1 kR;simp [Op.eqFields, go_sem, Result.andThen, e, JE, hi]
theorem UB (t n a b : Int) (w : World) : (binOp .eql 73 (.agg #[.int .i64 t, .int .i64 n, .int .i64 a, .int .i64 b]) (.agg #[.int .i64 t, .int .i64 n, .int .i64 a, .int .i64 b])).run Tryz.prog w = .ok (.bool true) w := by
 rw [run_eql_struct, Ps];rfl
end Go.Proofs.YtapjfhbonfehpaaGreatDoor
