/- Package desc: Status, Pack, Unpack. -/
import Derived.Test.YtbomhhkknopdpaaGreatDoorE1
import Derived.ChangeKeysEq
import Derived.Laws.StructEq
namespace Go.Proofs.YtbomhhkknopdpaaGreatDoor
set_option linter.unusedSimpArgs false
set_option linter.unusedVariables false
open Go.RowKit
theorem stoodWord : Tryz.prog.stoodInHeld 62 = false := by kernel_rfl
theorem fieldsWord : Tryz.prog.fieldsOf 62 = #[⟨"Val", 2, 0, false, "", "", 0⟩, ⟨"Ver", 60, 1, false, "", "", 8⟩, ⟨"Ref", 60, 2, false, "", "", 12⟩] := by simp [Program.fieldsOf, Tryz.underlying62]
theorem eqW (d : Nat) (a b c a' b' c' : Int) (w : World) : (Op.equalIn (d + 2) 62 (.agg #[.int .i64 a, .int .u32 b, .int .u32 c]) (.agg #[.int .i64 a', .int .u32 b', .int .u32 c'])).run Tryz.prog w = .ok (a == a' && (b == b' && c == c')) w := by
  rw [run_equalIn_struct w (d + 1) 62 _ _ (by rw [fieldsWord]; exact Tryz.underlying62) stoodWord, fieldsWord]
  cases h1 : (a == a') <;> cases h2 : (b == b') <;> cases h3 : (c == c') <;> simp [Op.eqFields, go_sem, Result.andThen, h1, h2, h3]
theorem infoWord : ∃ i, Tryz.prog.info? 62 = some i := by
  have h : (Tryz.prog.info? 62).isSome = true := by kernel_rfl
  exact Option.isSome_iff_exists.1 h
theorem cellsWord : Tryz.prog.cellsOf 62 = 3 := by kernel_rfl
def eq3 (x y : W3) : Bool := x.v == y.v && (x.r == y.r && x.f == y.f)
theorem eq3_iff (x y : W3) : eq3 x y = true ↔ x = y := by
  obtain ⟨a, b, c⟩ := x
  obtain ⟨a', b', c'⟩ := y
  simp [eq3]
theorem neqArr (x y z x' y' z' : W3) (w : World) : (binOp .neq 112 (.agg #[.int .i64 (x).v, .int .u32 (x).r, .int .u32 (x).f, .int .i64 (y).v, .int .u32 (y).r, .int .u32 (y).f, .int .i64 (z).v, .int .u32 (z).r, .int .u32 (z).f]) (.agg #[.int .i64 (x').v, .int .u32 (x').r, .int .u32 (x').f, .int .i64 (y').v, .int .u32 (y').r, .int .u32 (y').f, .int .i64 (z').v, .int .u32 (z').r, .int .u32 (z').f])).run Tryz.prog w = .ok (.bool (!(eq3 x x' && (eq3 y y' && eq3 z z')))) w := by
  obtain ⟨i, hi⟩ := infoWord
  rw [run_neq_struct, run_equalIn_array w 9999 _ _ Tryz.underlying112 hi, cellsWord]
  have e1 := eqW 9997 x.v x.r x.f x'.v x'.r x'.f
  have e2 := eqW 9997 y.v y.r y.f y'.v y'.r y'.f
  have e3 := eqW 9997 z.v z.r z.f z'.v z'.r z'.f
  simp only [show 9997 + 2 = 9999 from rfl] at e1 e2 e3
  cases h1 : eq3 x x' <;> cases h2 : eq3 y y' <;> cases h3 : eq3 z z' <;> (unfold eq3 at h1 h2 h3; rw [h1] at e1; rw [h2] at e2; rw [h3] at e3; simp [Op.eqItems, List.range_succ, go_sem, Result.andThen, e1, e2, e3])
theorem eqWord (x y : W3) (w : World) : (binOp .eql 62 (.agg #[.int .i64 (x).v, .int .u32 (x).r, .int .u32 (x).f]) (.agg #[.int .i64 (y).v, .int .u32 (y).r, .int .u32 (y).f])).run Tryz.prog w = .ok (.bool (eq3 x y)) w := by
  rw [run_eql_struct, eqW 9998]
  rfl
theorem neqWord (x y : W3) (w : World) : (binOp .neq 62 (.agg #[.int .i64 (x).v, .int .u32 (x).r, .int .u32 (x).f]) (.agg #[.int .i64 (y).v, .int .u32 (y).r, .int .u32 (y).f])).run Tryz.prog w = .ok (.bool (!eq3 x y)) w := by
  rw [run_neq_struct, eqW 9998]
  rfl
/-- The three words of an entry. -/
def packL (e : En) : W3 × W3 × W3 := (⟨e.a, if e.w then 1 else 0, 0⟩, ⟨e.o.v, e.o.r, 0⟩, ⟨e.n, 0, 0⟩)
theorem pack_any (e : En) (w : World) : Calls Tryz.prog 50 #[(.agg #[.int .i64 (e).a, .int .i64 (e).o.v, .int .u32 (e).o.r, .int .u32 (e).o.f, .int .i64 (e).n, .bool (e).w])] w fun r w' => r = .returned (.agg #[.int .i64 ((packL e).1).v, .int .u32 ((packL e).1).r, .int .u32 ((packL e).1).f, .int .i64 ((packL e).2.1).v, .int .u32 ((packL e).2.1).r, .int .u32 ((packL e).2.1).f, .int .i64 ((packL e).2.2).v, .int .u32 ((packL e).2.2).r, .int .u32 ((packL e).2.2).f]) ∧ Below w.heap.size w w' := by
  obtain ⟨a, ⟨v, r, f⟩, n, b⟩ := e
  cases b with
  | true =>
    go_enter Tryz.func50, Tryz.ntmps50
    go_wp2_with fail
    exact bodyPost_ret (v := .agg #[.int .i64 a, .int .u32 1, .int .u32 0, .int .i64 v, .int .u32 r, .int .u32 0, .int .i64 n, .int .u32 0, .int .u32 0]) (by simp [results, Tryz.results50, go_sem]) rfl ⟨rfl, (by repeat' (first | with_reducible exact Below.refl _ _ | with_reducible assumption | with_reducible refine Below.alloc ?_ ?_ _ | with_reducible refine Below.setCell ?_ ?_ _ | with_reducible refine Below.drew ?_ | with_reducible refine below_drewN ?_ _ | with_reducible refine Below.trans ?_ (Below.mono (by with_reducible assumption) ?_) | omega | (simp <;> omega)))⟩
  | false =>
    go_enter Tryz.func50, Tryz.ntmps50
    go_wp2_with fail
    exact bodyPost_ret (v := .agg #[.int .i64 a, .int .u32 0, .int .u32 0, .int .i64 v, .int .u32 r, .int .u32 0, .int .i64 n, .int .u32 0, .int .u32 0]) (by simp [results, Tryz.results50, go_sem]) rfl ⟨rfl, (by repeat' (first | with_reducible exact Below.refl _ _ | with_reducible assumption | with_reducible refine Below.alloc ?_ ?_ _ | with_reducible refine Below.setCell ?_ ?_ _ | with_reducible refine Below.drew ?_ | with_reducible refine below_drewN ?_ _ | with_reducible refine Below.trans ?_ (Below.mono (by with_reducible assumption) ?_) | omega | (simp <;> omega)))⟩
theorem status_any (st seq : Int) (w : World) (h0 : 0 ≤ seq) (h1 : seq < 4294967296) : Calls Tryz.prog 49 #[.int .i64 st, .int .i64 seq] w fun r w' => r = .returned (.agg #[.int .i64 st, .int .u32 seq, .int .u32 0]) ∧ Below w.heap.size w w' := by
  have hw : IntKind.u32.wrap seq = seq := IntWalk.u32_in seq (by omega)
  go_enter Tryz.func49, Tryz.ntmps49
  go_wp2_with fail
  exact bodyPost_ret (v := .agg #[.int .i64 st, .int .u32 seq, .int .u32 0]) (by simp [results, Tryz.results49, go_sem, hw]) rfl ⟨rfl, (by repeat' (first | with_reducible exact Below.refl _ _ | with_reducible assumption | with_reducible refine Below.alloc ?_ ?_ _ | with_reducible refine Below.setCell ?_ ?_ _ | with_reducible refine Below.drew ?_ | with_reducible refine below_drewN ?_ _ | with_reducible refine Below.trans ?_ (Below.mono (by with_reducible assumption) ?_) | omega | (simp <;> omega)))⟩
def en0 : En := ⟨0, ⟨0, 0, 0⟩, 0, false⟩
/-- An entry out of its three words. -/
def unpackE (x y z : W3) : En := ⟨x.v, y, z.v, x.r == 1⟩
def fitsE (x y z : W3) : Bool := eq3 (packL (unpackE x y z)).1 x && (eq3 (packL (unpackE x y z)).2.1 y && eq3 (packL (unpackE x y z)).2.2 z)
def unpackL (x y z : W3) : En × Bool := if x.v < 0 ∨ 4096 ≤ x.v then (en0, false) else if fitsE x y z = true then (unpackE x y z, true) else (en0, false)
set_option maxHeartbeats 1000000 in
theorem unpack_c (a b c a' b' c' a2 b2 c2 : Int) (w : World) (q : Bool) (h0 : 0 ≤ a) (h1 : a < 4096) (hq : fitsE ⟨a, b, c⟩ ⟨a', b', c'⟩ ⟨a2, b2, c2⟩ = q) : Calls Tryz.prog 78 #[.agg #[.int .i64 a, .int .u32 b, .int .u32 c, .int .i64 a', .int .u32 b', .int .u32 c', .int .i64 a2, .int .u32 b2, .int .u32 c2]] w fun r w' => r = .returned (.tuple #[.agg #[.int .i64 ((if q then unpackE ⟨a, b, c⟩ ⟨a', b', c'⟩ ⟨a2, b2, c2⟩ else en0)).a, .int .i64 ((if q then unpackE ⟨a, b, c⟩ ⟨a', b', c'⟩ ⟨a2, b2, c2⟩ else en0)).o.v, .int .u32 ((if q then unpackE ⟨a, b, c⟩ ⟨a', b', c'⟩ ⟨a2, b2, c2⟩ else en0)).o.r, .int .u32 ((if q then unpackE ⟨a, b, c⟩ ⟨a', b', c'⟩ ⟨a2, b2, c2⟩ else en0)).o.f, .int .i64 ((if q then unpackE ⟨a, b, c⟩ ⟨a', b', c'⟩ ⟨a2, b2, c2⟩ else en0)).n, .bool ((if q then unpackE ⟨a, b, c⟩ ⟨a', b', c'⟩ ⟨a2, b2, c2⟩ else en0)).w], .bool q]) ∧ Below w.heap.size w w' := by
  have hn := neqArr (packL (unpackE ⟨a, b, c⟩ ⟨a', b', c'⟩ ⟨a2, b2, c2⟩)).1 (packL (unpackE ⟨a, b, c⟩ ⟨a', b', c'⟩ ⟨a2, b2, c2⟩)).2.1 (packL (unpackE ⟨a, b, c⟩ ⟨a', b', c'⟩ ⟨a2, b2, c2⟩)).2.2 ⟨a, b, c⟩ ⟨a', b', c'⟩ ⟨a2, b2, c2⟩
  have hq' : (eq3 (packL (unpackE ⟨a, b, c⟩ ⟨a', b', c'⟩ ⟨a2, b2, c2⟩)).1 ⟨a, b, c⟩ && (eq3 (packL (unpackE ⟨a, b, c⟩ ⟨a', b', c'⟩ ⟨a2, b2, c2⟩)).2.1 ⟨a', b', c'⟩ && eq3 (packL (unpackE ⟨a, b, c⟩ ⟨a', b', c'⟩ ⟨a2, b2, c2⟩)).2.2 ⟨a2, b2, c2⟩)) = q := hq
  have Hp := hide (fun W => pack_any (unpackE ⟨a, b, c⟩ ⟨a', b', c'⟩ ⟨a2, b2, c2⟩) W)
  simp only [hq'] at hn
  obtain ⟨P1, hP1⟩ : ∃ P, P = (packL (unpackE ⟨a, b, c⟩ ⟨a', b', c'⟩ ⟨a2, b2, c2⟩)).1 := ⟨_, rfl⟩
  obtain ⟨P2, hP2⟩ : ∃ P, P = (packL (unpackE ⟨a, b, c⟩ ⟨a', b', c'⟩ ⟨a2, b2, c2⟩)).2.1 := ⟨_, rfl⟩
  obtain ⟨P3, hP3⟩ : ∃ P, P = (packL (unpackE ⟨a, b, c⟩ ⟨a', b', c'⟩ ⟨a2, b2, c2⟩)).2.2 := ⟨_, rfl⟩
  rw [← hP1, ← hP2, ← hP3] at hn
  have H1 := hide hP1
  have H2 := hide hP2
  have H3 := hide hP3
  clear hq hq' hP1 hP2 hP3
  go_enter Tryz.func78, Tryz.ntmps78
  go_wp2_with fail
  go_region_held3 (fun w' => w'.cell? ⟨w.heap.size, 0, none⟩ = some (.int .i64 a) ∧ w'.cell? ⟨w.heap.size, 1, none⟩ = some (.int .u32 b) ∧ w'.cell? ⟨w.heap.size, 2, none⟩ = some (.int .u32 c) ∧ w'.cell? ⟨w.heap.size, 3, none⟩ = some (.int .i64 a') ∧ w'.cell? ⟨w.heap.size, 4, none⟩ = some (.int .u32 b') ∧ w'.cell? ⟨w.heap.size, 5, none⟩ = some (.int .u32 c') ∧ w'.cell? ⟨w.heap.size, 6, none⟩ = some (.int .i64 a2) ∧ w'.cell? ⟨w.heap.size, 7, none⟩ = some (.int .u32 b2) ∧ w'.cell? ⟨w.heap.size, 8, none⟩ = some (.int .u32 c2) ∧ w'.cell? ⟨w.heap.size + 1 + 1, 0, none⟩ = some (.int .i64 a) ∧ w'.cell? ⟨w.heap.size + 1 + 1, 1, none⟩ = some (.int .i64 a') ∧ w'.cell? ⟨w.heap.size + 1 + 1, 2, none⟩ = some (.int .u32 b') ∧ w'.cell? ⟨w.heap.size + 1 + 1, 3, none⟩ = some (.int .u32 c') ∧ w'.cell? ⟨w.heap.size + 1 + 1, 4, none⟩ = some (.int .i64 a2) ∧ w'.cell? ⟨w.heap.size + 1 + 1, 5, none⟩ = some (.bool (b == 1)))
    (first | exact ⟨by go_simp, by go_simp, by go_simp, by go_simp, by go_simp, by go_simp, by go_simp, by go_simp, by go_simp, by go_simp, by go_simp, by go_simp, by go_simp, by go_simp, by go_simp⟩ | go_keep)
    (first | (go_at_call 50; refine (Hp.out _).mono ?_; rintro e w1 ⟨rfl, hb1'⟩; rw [← H1.out, ← H2.out, ← H3.out]; have hb1 : Below _ _ w1 := (by first | with_reducible exact noDrew hb1' | exact hb1'); clear hb1'; obtain ⟨hcc1, hff1⟩ := bcell hb1; have hs1 := hb1.size; (try simp at hs1); have hz1 : w.heap.size < w1.heap.size := (by omega); have hy1 : w.heap.size + 1 < w1.heap.size := (by omega); have hx1 : w.heap.size + 1 + 1 < w1.heap.size := (by omega)))
  all_goals have p0 : ∀ o, w1.frozen? ⟨w.heap.size + 1, o, none⟩ = false := fun o => by rw [hff1 _ _ (by simp)]; go_simp
  all_goals have r0 : w1.cell? ⟨w.heap.size + 1, 0, none⟩ = some (.int .i64 0) := by go_simp
  all_goals have r1 : w1.cell? ⟨w.heap.size + 1, 1, none⟩ = some (.int .i64 0) := by go_simp
  all_goals have r2 : w1.cell? ⟨w.heap.size + 1, 2, none⟩ = some (.int .u32 0) := by go_simp
  all_goals have r3 : w1.cell? ⟨w.heap.size + 1, 3, none⟩ = some (.int .u32 0) := by go_simp
  all_goals have r4 : w1.cell? ⟨w.heap.size + 1, 4, none⟩ = some (.int .i64 0) := by go_simp
  all_goals have r5 : w1.cell? ⟨w.heap.size + 1, 5, none⟩ = some (.bool false) := by go_simp
  all_goals cases q
  all_goals go_wp2_with fail
  · exact bodyPost_ret (v := .tuple #[.agg #[.int .i64 0, .int .i64 0, .int .u32 0, .int .u32 0, .int .i64 0, .bool false], .bool false]) (by simp [results, Tryz.results78, go_sem, r0, r1, r2, r3, r4, r5]) rfl ⟨rfl, (by repeat' (first | with_reducible exact Below.refl _ _ | with_reducible assumption | with_reducible refine Below.alloc ?_ ?_ _ | with_reducible refine Below.setCell ?_ ?_ _ | with_reducible refine Below.drew ?_ | with_reducible refine below_drewN ?_ _ | with_reducible refine Below.trans ?_ (Below.mono (by with_reducible assumption) ?_) | omega | (simp <;> omega)))⟩
  · exact bodyPost_ret (v := .tuple #[.agg #[.int .i64 a, .int .i64 a', .int .u32 b', .int .u32 c', .int .i64 a2, .bool (b == 1)], .bool true]) (by simp [results, Tryz.results78, go_sem, r0, r1, r2, r3, r4, r5]) rfl ⟨rfl, (by repeat' (first | with_reducible exact Below.refl _ _ | with_reducible assumption | with_reducible refine Below.alloc ?_ ?_ _ | with_reducible refine Below.setCell ?_ ?_ _ | with_reducible refine Below.drew ?_ | with_reducible refine below_drewN ?_ _ | with_reducible refine Below.trans ?_ (Below.mono (by with_reducible assumption) ?_) | omega | (simp <;> omega)))⟩
theorem unpack_1 (a b c a' b' c' a2 b2 c2 : Int) (w : World) (h : a < 0) : Calls Tryz.prog 78 #[.agg #[.int .i64 a, .int .u32 b, .int .u32 c, .int .i64 a', .int .u32 b', .int .u32 c', .int .i64 a2, .int .u32 b2, .int .u32 c2]] w fun r w' => r = .returned (.tuple #[.agg #[.int .i64 (en0).a, .int .i64 (en0).o.v, .int .u32 (en0).o.r, .int .u32 (en0).o.f, .int .i64 (en0).n, .bool (en0).w], .bool false]) ∧ Below w.heap.size w w' := by
  go_enter Tryz.func78, Tryz.ntmps78
  go_wp2_with fail
  exact bodyPost_ret (v := .tuple #[.agg #[.int .i64 0, .int .i64 0, .int .u32 0, .int .u32 0, .int .i64 0, .bool false], .bool false]) (by simp [results, Tryz.results78, go_sem]) rfl ⟨rfl, (by repeat' (first | with_reducible exact Below.refl _ _ | with_reducible assumption | with_reducible refine Below.alloc ?_ ?_ _ | with_reducible refine Below.setCell ?_ ?_ _ | with_reducible refine Below.drew ?_ | with_reducible refine below_drewN ?_ _ | with_reducible refine Below.trans ?_ (Below.mono (by with_reducible assumption) ?_) | omega | (simp <;> omega)))⟩
theorem unpack_2 (a b c a' b' c' a2 b2 c2 : Int) (w : World) (h : 4096 ≤ a) : Calls Tryz.prog 78 #[.agg #[.int .i64 a, .int .u32 b, .int .u32 c, .int .i64 a', .int .u32 b', .int .u32 c', .int .i64 a2, .int .u32 b2, .int .u32 c2]] w fun r w' => r = .returned (.tuple #[.agg #[.int .i64 (en0).a, .int .i64 (en0).o.v, .int .u32 (en0).o.r, .int .u32 (en0).o.f, .int .i64 (en0).n, .bool (en0).w], .bool false]) ∧ Below w.heap.size w w' := by
  have h0 : ¬ a < 0 := by omega
  go_enter Tryz.func78, Tryz.ntmps78
  go_wp2_with fail
  exact bodyPost_ret (v := .tuple #[.agg #[.int .i64 0, .int .i64 0, .int .u32 0, .int .u32 0, .int .i64 0, .bool false], .bool false]) (by simp [results, Tryz.results78, go_sem]) rfl ⟨rfl, (by repeat' (first | with_reducible exact Below.refl _ _ | with_reducible assumption | with_reducible refine Below.alloc ?_ ?_ _ | with_reducible refine Below.setCell ?_ ?_ _ | with_reducible refine Below.drew ?_ | with_reducible refine below_drewN ?_ _ | with_reducible refine Below.trans ?_ (Below.mono (by with_reducible assumption) ?_) | omega | (simp <;> omega)))⟩
theorem unpack_any (x y z : W3) (w : World) : Calls Tryz.prog 78 #[.agg #[.int .i64 (x).v, .int .u32 (x).r, .int .u32 (x).f, .int .i64 (y).v, .int .u32 (y).r, .int .u32 (y).f, .int .i64 (z).v, .int .u32 (z).r, .int .u32 (z).f]] w fun r w' => r = .returned (.tuple #[.agg #[.int .i64 ((unpackL x y z).1).a, .int .i64 ((unpackL x y z).1).o.v, .int .u32 ((unpackL x y z).1).o.r, .int .u32 ((unpackL x y z).1).o.f, .int .i64 ((unpackL x y z).1).n, .bool ((unpackL x y z).1).w], .bool (unpackL x y z).2]) ∧ Below w.heap.size w w' := by
  obtain ⟨a, b, c⟩ := x
  obtain ⟨a', b', c'⟩ := y
  obtain ⟨a2, b2, c2⟩ := z
  unfold unpackL
  simp only []
  by_cases h1 : a < 0
  · rw [if_pos (Or.inl h1)]
    exact unpack_1 a b c a' b' c' a2 b2 c2 w h1
  by_cases h2 : 4096 ≤ a
  · rw [if_pos (Or.inr h2)]
    exact unpack_2 a b c a' b' c' a2 b2 c2 w h2
  rw [if_neg (by omega)]
  cases hq : fitsE ⟨a, b, c⟩ ⟨a', b', c'⟩ ⟨a2, b2, c2⟩ with
  | true =>
    rw [if_pos rfl]
    exact unpack_c a b c a' b' c' a2 b2 c2 w true (by omega) (by omega) hq
  | false =>
    rw [if_neg (by simp)]
    exact unpack_c a b c a' b' c' a2 b2 c2 w false (by omega) (by omega) hq
end Go.Proofs.YtbomhhkknopdpaaGreatDoor
