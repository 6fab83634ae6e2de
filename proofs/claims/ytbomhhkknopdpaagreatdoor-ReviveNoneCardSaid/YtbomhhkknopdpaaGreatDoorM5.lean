/- The law's memory: Make. -/
import Derived.Test.YtbomhhkknopdpaaGreatDoorM4
import Derived.Test.YtbomhhkknopdpaaGreatDoorRh
import Derived.Test.YtbomhhkknopdpaaGreatDoorFm
import Derived.Test.YtbomhhkknopdpaaGreatDoorR5
import Derived.Deep.DeepCutAuto
namespace Go.Proofs.YtbomhhkknopdpaaGreatDoor
set_option linter.unusedSimpArgs false
set_option linter.unusedVariables false
open Go.RowKit
theorem BoxC.of3 {B : Nat} {w : World} {v0 v1 v2 : Value} (h0 : w.cell? ⟨B, 0, none⟩ = some v0) (h1 : w.cell? ⟨B, 1, none⟩ = some v1) (h2 : w.cell? ⟨B, 2, none⟩ = some v2) (hf : ∀ o, w.frozen? ⟨B, o, none⟩ = false) : BoxC B [v0, v1, v2] w :=
  ⟨fun j u hu => by
    match j, hu with
    | 0, hu => injection hu with hu; subst hu; exact h0
    | 1, hu => injection hu with hu; subst hu; exact h1
    | 2, hu => injection hu with hu; subst hu; exact h2, hf, cell_lt h0⟩
theorem BoxC.of4 {B : Nat} {w : World} {v0 v1 v2 v3 : Value} (h0 : w.cell? ⟨B, 0, none⟩ = some v0) (h1 : w.cell? ⟨B, 1, none⟩ = some v1) (h2 : w.cell? ⟨B, 2, none⟩ = some v2) (h3 : w.cell? ⟨B, 3, none⟩ = some v3) (hf : ∀ o, w.frozen? ⟨B, o, none⟩ = false) : BoxC B [v0, v1, v2, v3] w :=
  ⟨fun j u hu => by
    match j, hu with
    | 0, hu => injection hu with hu; subst hu; exact h0
    | 1, hu => injection hu with hu; subst hu; exact h1
    | 2, hu => injection hu with hu; subst hu; exact h2
    | 3, hu => injection hu with hu; subst hu; exact h3, hf, cell_lt h0⟩
theorem BoxC.of6 {B : Nat} {w : World} {v0 v1 v2 v3 v4 v5 : Value} (h0 : w.cell? ⟨B, 0, none⟩ = some v0) (h1 : w.cell? ⟨B, 1, none⟩ = some v1) (h2 : w.cell? ⟨B, 2, none⟩ = some v2) (h3 : w.cell? ⟨B, 3, none⟩ = some v3) (h4 : w.cell? ⟨B, 4, none⟩ = some v4) (h5 : w.cell? ⟨B, 5, none⟩ = some v5) (hf : ∀ o, w.frozen? ⟨B, o, none⟩ = false) : BoxC B [v0, v1, v2, v3, v4, v5] w :=
  ⟨fun j u hu => by
    match j, hu with
    | 0, hu => injection hu with hu; subst hu; exact h0
    | 1, hu => injection hu with hu; subst hu; exact h1
    | 2, hu => injection hu with hu; subst hu; exact h2
    | 3, hu => injection hu with hu; subst hu; exact h3
    | 4, hu => injection hu with hu; subst hu; exact h4
    | 5, hu => injection hu with hu; subst hu; exact h5, hf, cell_lt h0⟩
theorem entsTo_good (s : Sl) (hs : s.ok) (k : Nat) : (-1 ≤ (entsTo s k).1 ∧ (entsTo s k).1 < 8) ∧ (entsTo s k).2.length ≤ k ∧ (entsTo s k).2.length ≤ 4 ∧ ∀ e ∈ (entsTo s k).2, e.ok := by
  have h : (-1 ≤ (entsTo s k).1 ∧ (entsTo s k).1 < 8) ∧ (entsTo s k).2.length ≤ k ∧ (4 < k → (entsTo s k).2.length ≤ 4) ∧ ∀ e ∈ (entsTo s k).2, e.ok := by
    induction k with
    | zero => exact ⟨⟨by show (-1 : Int) ≤ -1; decide, by show (-1 : Int) < 8; decide⟩, Nat.le_refl _, fun h => by omega, fun e he => by cases he⟩
    | succ k ih =>
      obtain ⟨⟨i1, i2⟩, i3, i4, i5⟩ := ih
      rw [entsTo_succ]
      unfold entStep
      split
      · rename_i hc
        obtain ⟨c1, c2, c3, c4⟩ := hc
        refine ⟨⟨by simp only []; omega, by simp only []; omega⟩, by simp only [List.length_append, List.length_singleton]; omega, fun h => by omega, fun e he => ?_⟩
        simp only [List.mem_append, List.mem_singleton] at he
        rcases he with he | rfl
        · exact i5 e he
        · obtain ⟨-, -, -, q6, -⟩ := hs
          have ho := ok_getD q6 k
          obtain ⟨o1, o2, o3, o4, -, -⟩ := ho
          exact ⟨o1, o2, by simp only [entOf]; omega, by simp only [entOf]; omega, by simp only [entOf]; decide, by simp only [entOf]; decide⟩
      · exact ⟨⟨i1, i2⟩, by omega, fun h => by by_cases h4 : 4 < k <;> omega, i5⟩
  refine ⟨h.1, h.2.1, ?_, h.2.2.2⟩
  by_cases h4 : 4 < k
  · exact h.2.2.1 h4
  · have := h.2.1; omega
theorem rd_int8 {w : World} {B n : Nat} {A : Option Addr} {l : List Int} (h : Rd w B 1 A n (l.map (Value.int .u8))) {k : Nat} {a : Int} (hk : k < n) (ha : l[k]? = some a) : ∃ b off, A = some ⟨b, off, none⟩ ∧ b < B ∧ w.cell? ⟨b, off + k, none⟩ = some (.int .u8 a) := by
  obtain ⟨b, off, e, hb, hc⟩ := h.at_ hk
  exact ⟨b, off, e, hb, hc k _ (by rw [List.getElem?_map, ha]; rfl)⟩
theorem rd_six {w : World} {b : Nat} {v0 v1 v2 v3 v4 v5 : Value} (h0 : w.cell? ⟨b, 0, none⟩ = some v0) (h1 : w.cell? ⟨b, 1, none⟩ = some v1) (h2 : w.cell? ⟨b, 2, none⟩ = some v2) (h3 : w.cell? ⟨b, 3, none⟩ = some v3) (h4 : w.cell? ⟨b, 4, none⟩ = some v4) (h5 : w.cell? ⟨b, 5, none⟩ = some v5) : Rd w w.heap.size 6 (some ⟨b, 0, none⟩) 1 [v0, v1, v2, v3, v4, v5] := ⟨rfl, fun _ => ⟨b, 0, rfl, cell_lt h0, fun j u hu => by
  rw [Nat.zero_add]
  match j, hu with
  | 0, hu => injection hu with hu; subst hu; exact h0
  | 1, hu => injection hu with hu; subst hu; exact h1
  | 2, hu => injection hu with hu; subst hu; exact h2
  | 3, hu => injection hu with hu; subst hu; exact h3
  | 4, hu => injection hu with hu; subst hu; exact h4
  | 5, hu => injection hu with hu; subst hu; exact h5
  | j + 6, hu => simp at hu⟩⟩
theorem checkD_place {T C B who seq st : Int} {es : List En} (h : checkD T C B who seq st es = 0) : placeN T C B who ≠ 0 := by
  intro h0
  unfold checkD at h
  rw [if_pos h0] at h
  cases h
theorem checkD_most {T C B who seq st : Int} {es : List En} (h : checkD T C B who seq st es = 0) : (es.length : Int) ≤ placeN T C B who := by
  unfold checkD at h
  split at h
  · cases h
  · split at h
    · cases h
    · split at h
      · cases h
      · split at h
        · exact absurd h (by assumption)
        · split at h
          · cases h
          · split at h
            · cases h
            · split at h
              · cases h
              · omega
theorem ref_bits (m : Nat) (hm : m < 5) (sq : Int) (h0 : 0 ≤ sq) (h1 : sq < 65536) : bits .or .u32 (IntKind.u32.wrap (IntKind.u32.wrap (holdersL[m]?.getD 0) * 16777216)) (IntKind.u32.wrap (IntKind.u16.wrap (sq.tmod 9 + 1))) = holdersL.getD m 0 * 16777216 + (sq % 9 + 1) := by
  rw [Int.tmod_eq_emod_of_nonneg h0]
  obtain ⟨r, hr⟩ : ∃ r, r = sq % 9 := ⟨_, rfl⟩
  rw [← hr]
  have h : r = 0 ∨ r = 1 ∨ r = 2 ∨ r = 3 ∨ r = 4 ∨ r = 5 ∨ r = 6 ∨ r = 7 ∨ r = 8 := by omega
  clear hr
  have hm' : m = 0 ∨ m = 1 ∨ m = 2 ∨ m = 3 ∨ m = 4 := by omega
  rcases hm' with rfl | rfl | rfl | rfl | rfl <;> rcases h with rfl | rfl | rfl | rfl | rfl | rfl | rfl | rfl | rfl <;> decide
set_option maxRecDepth 100000 in
theorem idx3 (a b c : Int) (j : Nat) (hj : j < 3) (w : World) : (Instr.index 71 (.agg #[.int .i64 a, .int .i64 b, .int .i64 c]) (.int .i64 j)).run Tryz.prog w = .ok (.int .i64 ([a, b, c].getD j 0)) w := by
  have h : j = 0 ∨ j = 1 ∨ j = 2 := by omega
  rcases h with rfl | rfl | rfl
  · exact (by kernel_rfl : (Instr.index 71 (.agg #[.int .i64 a, .int .i64 b, .int .i64 c]) (.int .i64 0)).run Tryz.prog w = .ok (.int .i64 a) w)
  · exact (by kernel_rfl : (Instr.index 71 (.agg #[.int .i64 a, .int .i64 b, .int .i64 c]) (.int .i64 1)).run Tryz.prog w = .ok (.int .i64 b) w)
  · exact (by kernel_rfl : (Instr.index 71 (.agg #[.int .i64 a, .int .i64 b, .int .i64 c]) (.int .i64 2)).run Tryz.prog w = .ok (.int .i64 c) w)
def recTo (r : List Int) (p : Nat) (o : List W3) (j : Nat) : List W3 := (List.range j).foldl (fun o q => setV (r.getD q 0) o ((p + q : Nat) : Int)) o
theorem recTo_succ (r : List Int) (p : Nat) (o : List W3) (j : Nat) : recTo r p o (j + 1) = setV (r.getD j 0) (recTo r p o j) ((p + j : Nat) : Int) := by unfold recTo; rw [List.range_succ, List.foldl_append]; rfl
theorem recTo_len (r : List Int) (p : Nat) (o : List W3) (j : Nat) : (recTo r p o j).length = o.length := by
  induction j with
  | zero => rfl
  | succ j ih => rw [recTo_succ, setV_len, ih]
theorem recOut_to (a b c : Int) (i p : Nat) (o : List W3) (h : atL 3 8 2 2 (i : Nat) 0 = (p : Int)) : recOut (a, b, c) i o = recTo [a, b, c] p o 3 := by
  unfold recOut
  rw [h]
  rfl
theorem rd_int16 {w : World} {B n : Nat} {A : Option Addr} {l : List Int} (h : Rd w B 1 A n (l.map (Value.int .u16))) {k : Nat} {a : Int} (hk : k < n) (ha : l[k]? = some a) : ∃ b off, A = some ⟨b, off, none⟩ ∧ b < B ∧ w.cell? ⟨b, off + k, none⟩ = some (.int .u16 a) := by
  obtain ⟨b, off, e, hb, hc⟩ := h.at_ hk
  exact ⟨b, off, e, hb, hc k _ (by rw [List.getElem?_map, ha]; rfl)⟩
def MakePost (ws : List W3) (w : World) (e : Ending) (w' : World) : Prop := ∃ g : Nat, e = .returned (.tuple #[.slice (some ⟨g, 0, none⟩) 448 448, .bool true]) ∧ Mem g ws w' ∧ w.heap.size ≤ g ∧ Below w.heap.size w w'
set_option maxHeartbeats 16000000 in
set_option maxRecDepth 100000 in
theorem make_yes (m : MemArg) (w : World) (hs : Sizes w) (hf : m.fits = true) (hm : m.In w w.heap.size) (hok : m.ok) : Calls Tryz.prog 6 #[m.val] w (MakePost m.words w) := by
  have hp := hs.pos
  obtain ⟨As, cs, sl, Ac, cc, ce, Ar, cr, re, Ao, co, ov, Aa, ca, ats⟩ := m
  unfold MemArg.fits at hf
  simp only [Bool.and_eq_true, decide_eq_true_eq] at hf
  obtain ⟨⟨⟨a1, a2⟩, a3⟩, a4⟩ := hf
  obtain ⟨i1, i2, i3, i4, i5⟩ := hm
  obtain ⟨o1, o2, o3, o4, o5, -, -, -, -, o6⟩ := hok
  simp only [] at i1 i2 i3 i4 i5 o1 o2 o3 o4 o5 o6
  unfold MemArg.words MemArg.val
  simp only []
  have I1 := hide i1
  have I2 := hide i2
  have I3 := hide i3
  have I4 := hide i4
  have I5 := hide i5
  have O1 := hide o1
  have O2 := hide o2
  have O3 := hide o3
  have O4 := hide o4
  have O5 := hide o5
  obtain ⟨Q, hQ⟩ : ∃ Q : Ending → World → Prop, Q = MakePost (makeL sl ce re ov ats) w := ⟨_, rfl⟩
  rw [← hQ]
  have HQ := hide hQ
  have b1 : ¬ 5 < sl.length := by omega
  have b2 : ¬ 8 < ce.length := by omega
  have b3 : ¬ 3 < re.length := by omega
  have b4 : ¬ 10 < ov.length := by omega
  clear i1 i2 i3 i4 i5 o1 o2 o3 o4 o5 hQ
  go_enter Tryz.func6, Tryz.ntmps6
  go_wp2_with (first
    | (go_at_call 5; refine (plan_ok _).mono ?_; rintro e w1 ⟨rfl, hb1⟩; obtain ⟨hcc1, hff1⟩ := bcell hb1; have hs1 := hb1.size; (try simp at hs1); have hz1 : w.heap.size < w1.heap.size := (by omega))
    | (go_at_call 11; refine (first_ok 3 8 2 448 _ valid382 (hs.below (by repeat' (first | with_reducible exact Below.refl _ _ | with_reducible assumption | with_reducible refine Below.alloc ?_ ?_ _ | with_reducible refine Below.setCell ?_ ?_ _ | with_reducible refine Below.drew ?_ | with_reducible refine below_drewN ?_ _ | with_reducible refine Below.trans ?_ (Below.mono (by with_reducible assumption) ?_) | omega | (simp <;> omega)))) from382 (by decide)).mono ?_; rintro e w2 ⟨G, rfl, hG2, hg2, hb2⟩; (try simp at hg2); obtain ⟨hcc2, hff2⟩ := bcell hb2; have hs2 := hb2.size; (try simp at hs2); have hz2 : w.heap.size < w2.heap.size := (by omega); have hy2 : w1.heap.size < w2.heap.size := (by omega)))
  have e0 : w2.cell? ⟨w1.heap.size, 0, none⟩ = some (.int .i64 3) := by go_simp
  have e1 : w2.cell? ⟨w1.heap.size, 1, none⟩ = some (.int .i64 8) := by go_simp
  have e2 : w2.cell? ⟨w1.heap.size, 2, none⟩ = some (.int .i64 2) := by go_simp
  have x0 : w2.cell? ⟨w.heap.size, 0, none⟩ = some (.slice As sl.length cs) := by go_simp
  have x1 : w2.cell? ⟨w.heap.size, 1, none⟩ = some (.slice Ac ce.length cc) := by go_simp
  have x2 : w2.cell? ⟨w.heap.size, 2, none⟩ = some (.slice Ar re.length cr) := by go_simp
  have x3 : w2.cell? ⟨w.heap.size, 3, none⟩ = some (.slice Ao ov.length co) := by go_simp
  have x4 : w2.cell? ⟨w.heap.size, 4, none⟩ = some (.slice Aa ats.length ca) := by go_simp
  have hB2 : Below w.heap.size w w2 := (by repeat' (first | with_reducible exact Below.refl _ _ | with_reducible assumption | with_reducible refine Below.alloc ?_ ?_ _ | with_reducible refine Below.setCell ?_ ?_ _ | with_reducible refine Below.drew ?_ | with_reducible refine below_drewN ?_ _ | with_reducible refine Below.trans ?_ (Below.mono (by with_reducible assumption) ?_) | omega | (simp <;> omega)))
  have HS2 := hide (hs.below hB2)
  have HG2 := hide hG2
  have J1 := hide (I1.out.below hB2)
  have J2 := hide (I2.out.below hB2)
  have J3 := hide (I3.out.below hB2)
  have J4 := hide (I4.out.below hB2)
  have J5 := hide (I5.out.below hB2)
  have hGl := hG2.2.2
  have hgw : ¬ G = w.heap.size := by omega
  have hgw1 : ¬ G = w1.heap.size := by omega
  clear hcc1 hff1 hb1 hcc2 hff2 hb2 hG2 I1 I2 I3 I4 I5
  obtain ⟨I1, hxI1⟩ : ∃ I : Act → World → Prop, I = (fun a wr => a.tmps.size = 282 ∧ a.defers = [] ∧ (∃ k : Nat, (a.tmps.toList[1]? = some (.pointer (some ⟨w.heap.size, 0, none⟩))) ∧ (a.tmps.toList[2]? = some (.slice none 0 0)) ∧ (a.tmps.toList[3]? = some (.bool false)) ∧ (a.tmps.toList[4]? = some (.pointer (some ⟨w1.heap.size, 0, none⟩))) ∧ (a.tmps.toList[5]? = some (.slice (some ⟨G, 0, none⟩) 448 448)) ∧ (a.tmps.toList[61]? = some (.slice As sl.length cs)) ∧ (a.tmps.toList[62]? = some (.int .i64 sl.length)) ∧ (a.tmps.toList[63]? = some (.int .i64 k)) ∧ k ≤ sl.length ∧ Mem G (slotsOut sl (firstL 3 8 2) k) wr ∧ But G w2.heap.size w2 wr)) := ⟨_, rfl⟩
  have HI1 := hide hxI1
  clear hxI1
  refine wp_loop I1 (fun a wr => sl.length - (intOf (a.tmps.getD 63 undef)).toNat) ?_ ?_
  · rw [HI1.out]
    exact ⟨rfl, rfl, 0, rfl, rfl, rfl, rfl, rfl, rfl, rfl, rfl, by omega, HG2.out, But.refl _ _ _⟩
  · skip
    intro a wr hI
    rw [HI1.out] at hI
    obtain ⟨hsz0, hdf0, hI⟩ := hI
    revert hI
    revert hdf0
    revert hsz0
    revert a
    refine elim282 ?_
    intro fr0 fr1 fr2 fr3 fr4 fr5 fr6 fr7 fr8 fr9 fr10 fr11 fr12 fr13 fr14 fr15 fr16 fr17 fr18 fr19 fr20 fr21 fr22 fr23 fr24 fr25 fr26 fr27 fr28 fr29 fr30 fr31 fr32 fr33 fr34 fr35 fr36 fr37 fr38 fr39 fr40 fr41 fr42 fr43 fr44 fr45 fr46 fr47 fr48 fr49 fr50 fr51 fr52 fr53 fr54 fr55 fr56 fr57 fr58 fr59 fr60 fr61 fr62 fr63 fr64 fr65 fr66 fr67 fr68 fr69 fr70 fr71 fr72 fr73 fr74 fr75 fr76 fr77 fr78 fr79 fr80 fr81 fr82 fr83 fr84 fr85 fr86 fr87 fr88 fr89 fr90 fr91 fr92 fr93 fr94 fr95 fr96 fr97 fr98 fr99 fr100 fr101 fr102 fr103 fr104 fr105 fr106 fr107 fr108 fr109 fr110 fr111 fr112 fr113 fr114 fr115 fr116 fr117 fr118 fr119 fr120 fr121 fr122 fr123 fr124 fr125 fr126 fr127 fr128 fr129 fr130 fr131 fr132 fr133 fr134 fr135 fr136 fr137 fr138 fr139 fr140 fr141 fr142 fr143 fr144 fr145 fr146 fr147 fr148 fr149 fr150 fr151 fr152 fr153 fr154 fr155 fr156 fr157 fr158 fr159 fr160 fr161 fr162 fr163 fr164 fr165 fr166 fr167 fr168 fr169 fr170 fr171 fr172 fr173 fr174 fr175 fr176 fr177 fr178 fr179 fr180 fr181 fr182 fr183 fr184 fr185 fr186 fr187 fr188 fr189 fr190 fr191 fr192 fr193 fr194 fr195 fr196 fr197 fr198 fr199 fr200 fr201 fr202 fr203 fr204 fr205 fr206 fr207 fr208 fr209 fr210 fr211 fr212 fr213 fr214 fr215 fr216 fr217 fr218 fr219 fr220 fr221 fr222 fr223 fr224 fr225 fr226 fr227 fr228 fr229 fr230 fr231 fr232 fr233 fr234 fr235 fr236 fr237 fr238 fr239 fr240 fr241 fr242 fr243 fr244 fr245 fr246 fr247 fr248 fr249 fr250 fr251 fr252 fr253 fr254 fr255 fr256 fr257 fr258 fr259 fr260 fr261 fr262 fr263 fr264 fr265 fr266 fr267 fr268 fr269 fr270 fr271 fr272 fr273 fr274 fr275 fr276 fr277 fr278 fr279 fr280 fr281
    intro hI
    obtain ⟨k, g1, g2, g3, g4, g5, g61, g62, g63, hk, hM, hB⟩ := hI
    have e1 := Option.some.inj g1; subst e1
    have e2 := Option.some.inj g2; subst e2
    have e3 := Option.some.inj g3; subst e3
    have e4 := Option.some.inj g4; subst e4
    have e5 := Option.some.inj g5; subst e5
    have e61 := Option.some.inj g61; subst e61
    have e62 := Option.some.inj g62; subst e62
    have e63 := Option.some.inj g63; subst e63
    clear g1 g2 g3 g4 g5 g61 g62 g63
    have hsz := hB.size
    have hwc : ∀ b o, b < w2.heap.size → b ≠ G → wr.cell? ⟨b, o, none⟩ = w2.cell? ⟨b, o, none⟩ := fun b o h1 h2 => hB.cell (p := ⟨b, o, none⟩) h1 h2
    have f0 := (hwc _ 0 hy2 (by omega)).trans e0
    have f1 := (hwc _ 1 hy2 (by omega)).trans e1
    have f2 := (hwc _ 2 hy2 (by omega)).trans e2
    have y0 := (hwc _ 0 hz2 (by omega)).trans x0
    have y1 := (hwc _ 1 hz2 (by omega)).trans x1
    have y2 := (hwc _ 2 hz2 (by omega)).trans x2
    have y3 := (hwc _ 3 hz2 (by omega)).trans x3
    have y4 := (hwc _ 4 hz2 (by omega)).trans x4
    have hBw : Below w.heap.size w2 wr := hB.below (by omega) (by omega)
    have HSr := hide (HS2.out.below' (by omega) hBw)
    have K1 := hide (J1.out.below hBw)
    have HM := hide hM
    have hzr : w.heap.size < wr.heap.size := by omega
    have hyr : w1.heap.size < wr.heap.size := by omega
    clear hwc hM
    by_cases hlt : k < sl.length
    · have hz : sl[k]? = some (sl[k]'hlt) := List.getElem?_eq_getElem hlt
      obtain ⟨s, hse⟩ : ∃ s, s = sl[k]'hlt := ⟨_, rfl⟩
      rw [← hse] at hz
      obtain ⟨b0, off, rfl, hb0, cs', ⟨Aa, ca, Ao, co, An, cn, rfl, r1, r2, r3⟩, hc⟩ := K1.out k s hz
      have hos := O1.out s (List.mem_of_getElem? hz)
      obtain ⟨⟨q1, q2⟩, ⟨q3, q4⟩, q5, q6, q7, q8, q9, q10⟩ := hos
      have l0 : wr.cell? ⟨b0, off + k * 6, none⟩ = some (.int .u8 s.st) := hc 0 _ rfl
      have l1 : wr.cell? ⟨b0, off + k * 6 + 1, none⟩ = some (.int .u16 s.sq) := hc 1 _ rfl
      have l2 : wr.cell? ⟨b0, off + k * 6 + 2, none⟩ = some (.slice Aa s.at_.length ca) := hc 2 _ rfl
      have l3 : wr.cell? ⟨b0, off + k * 6 + 3, none⟩ = some (.slice Ao s.old.length co) := hc 3 _ rfl
      have l4 : wr.cell? ⟨b0, off + k * 6 + 4, none⟩ = some (.slice An s.nw.length cn) := hc 4 _ rfl
      have l5 : wr.cell? ⟨b0, off + k * 6 + 5, none⟩ = some (.bool s.wr) := hc 5 _ rfl
      have hki : (0 : Int) ≤ (k : Int) := by omega
      have hkj : (k : Int) < (sl.length : Int) := by omega
      have hk5 : (k : Int) < 5 := by omega
      have hk5' : k < 5 := by omega
      have Hz := hide hz
      have Q5 := hide q5
      have Q6 := hide q6
      have Q7 := hide q7
      have R1 := hide r1
      have R2 := hide r2
      have R3 := hide r3
      clear hc hz hse q5 q6 q7 r1 r2 r3
      have hb0r : b0 < wr.heap.size := by omega
      have hwq1 : IntKind.i64.wrap (IntKind.i64.wrap (s.sq.tmod 9) + 1) = s.sq % 9 + 1 := by rw [Int.tmod_eq_emod_of_nonneg q3, IntWalk.i64_in (s.sq % 9) (by omega), IntWalk.i64_in _ (by omega)]
      have hwq2 : IntKind.i64.wrap (s.st.tmod 4) = s.st % 4 := by rw [Int.tmod_eq_emod_of_nonneg q1, IntWalk.i64_in _ (by omega)]
      have Hwq1 := hide hwq1
      have Hwq2 := hide hwq2
      clear hwq1 hwq2
      go_upto_region 8 with fail
      obtain ⟨w3, hw3⟩ : ∃ w3 : World, w3 = wr.alloc (.cells #[.int .u8 s.st, .int .u16 s.sq, .slice Aa s.at_.length ca, .slice Ao s.old.length co, .slice An s.nw.length cn, .bool s.wr] 53) := ⟨_, rfl⟩
      rw [← hw3]
      have m0 : w3.cell? ⟨wr.heap.size, 0, none⟩ = some (.int .u8 s.st) := by rw [hw3]; go_simp
      have m1 : w3.cell? ⟨wr.heap.size, 1, none⟩ = some (.int .u16 s.sq) := by rw [hw3]; go_simp
      have m2 : w3.cell? ⟨wr.heap.size, 2, none⟩ = some (.slice Aa s.at_.length ca) := by rw [hw3]; go_simp
      have m3 : w3.cell? ⟨wr.heap.size, 3, none⟩ = some (.slice Ao s.old.length co) := by rw [hw3]; go_simp
      have m4 : w3.cell? ⟨wr.heap.size, 4, none⟩ = some (.slice An s.nw.length cn) := by rw [hw3]; go_simp
      have m5 : w3.cell? ⟨wr.heap.size, 5, none⟩ = some (.bool s.wr) := by rw [hw3]; go_simp
      have hB3 : Below wr.heap.size wr w3 := by rw [hw3]; exact (by repeat' (first | with_reducible exact Below.refl _ _ | with_reducible assumption | with_reducible refine Below.alloc ?_ ?_ _ | with_reducible refine Below.setCell ?_ ?_ _ | with_reducible refine Below.drew ?_ | with_reducible refine below_drewN ?_ _ | with_reducible refine Below.trans ?_ (Below.mono (by with_reducible assumption) ?_) | omega | (simp <;> omega)))
      have hz3 : wr.heap.size < w3.heap.size := by rw [hw3]; simp
      clear hw3 l0 l1 l2 l3 l4 l5
      go_cut [8] (fun s8 wx => ∃ D : Nat, s8 = .pointer (some ⟨D, 0, none⟩) ∧ w3.heap.size ≤ D ∧ BoxC D [.int .i64 (slWho k), .int .i64 (s.sq % 9 + 1), .int .i64 (s.st % 4), .slice none 0 0] wx ∧ Below w3.heap.size w3 wx)
      case first =>
        refine wp_region_held_drew (S := (fun w' => w'.cell? ⟨wr.heap.size, 0, none⟩ = some (.int .u8 s.st) ∧ w'.cell? ⟨wr.heap.size, 1, none⟩ = some (.int .u16 s.sq))) (by kernel_rfl) (by first | exact ⟨by go_simp, by go_simp⟩) (fun hHeld => ?_)
        refine wpAnyH_take (i := 1) (v := ?_) (oi := { dst := some 69, op := Op.move (Operand.tmp 6), type := 3, pos := "law.go:55", after := #[], guard := none }) (by rfl) (by kernel_rfl) (by kernel_rfl) (by kernel_rfl) (fun _ _ _ h => h) (Or.inl ⟨by rfl, ?_⟩) (by assumption) ?_; rotate_left; focus (intro w hSw; (try dsimp only at hSw); go_simp; (try with_reducible rfl); done)
        (try simp only [Act.put, List.setIfInBounds_toArray, List.set_cons_zero, List.set_cons_succ])
        refine wpAnyH_take (i := 4) (v := ?_) (oi := { dst := some 72, op := Op.fieldAddr 53 (Operand.tmp 7) 1, type := 0, pos := "law.go:55", after := #[], guard := none }) (by rfl) (by kernel_rfl) (by kernel_rfl) (by kernel_rfl) (fun _ _ _ h => h) (Or.inl ⟨by rfl, ?_⟩) (by assumption) ?_; rotate_left; focus (intro w hSw; (try dsimp only at hSw); go_simp; (try with_reducible rfl); done)
        (try simp only [Act.put, List.setIfInBounds_toArray, List.set_cons_zero, List.set_cons_succ])
        refine wpAnyH_take (i := 5) (v := ?_) (oi := { dst := some 73, op := Op.load 29 (Operand.tmp 72), type := 29, pos := "law.go:55", after := #[{ on := 4, ground := Ground.data }], guard := none }) (by rfl) (by kernel_rfl) (by kernel_rfl) (by kernel_rfl) (fun _ _ _ h => h) (Or.inl ⟨by rfl, ?_⟩) (by assumption) ?_; rotate_left; focus (intro w hSw; (try dsimp only at hSw); go_simp; (try with_reducible rfl); done)
        (try simp only [Act.put, List.setIfInBounds_toArray, List.set_cons_zero, List.set_cons_succ])
        refine wpAnyH_take (i := 6) (v := ?_) (oi := { dst := some 74, op := Op.binOp BinOp.rem 29 (Operand.tmp 73) (Operand.const (Value.int IntKind.u16 9)) 29, type := 29, pos := "law.go:55", after := #[{ on := 5, ground := Ground.data }], guard := none }) (by rfl) (by kernel_rfl) (by kernel_rfl) (by kernel_rfl) (fun _ _ _ h => h) (Or.inl ⟨by rfl, ?_⟩) (by assumption) ?_; rotate_left; focus (intro w hSw; (try dsimp only at hSw); go_simp; (try with_reducible rfl); done)
        (try simp only [Act.put, List.setIfInBounds_toArray, List.set_cons_zero, List.set_cons_succ])
        refine wpAnyH_take (i := 7) (v := ?_) (oi := { dst := some 75, op := Op.convert 29 3 (Operand.tmp 74), type := 3, pos := "law.go:55", after := #[{ on := 6, ground := Ground.data }], guard := none }) (by rfl) (by kernel_rfl) (by kernel_rfl) (by kernel_rfl) (fun _ _ _ h => h) (Or.inl ⟨by rfl, ?_⟩) (by assumption) ?_; rotate_left; focus (intro w hSw; (try dsimp only at hSw); go_simp; (try with_reducible rfl); done)
        (try simp only [Act.put, List.setIfInBounds_toArray, List.set_cons_zero, List.set_cons_succ])
        refine wpAnyH_take (i := 8) (v := ?_) (oi := { dst := some 76, op := Op.binOp BinOp.add 3 (Operand.tmp 75) (Operand.const (Value.int IntKind.i64 1)) 3, type := 3, pos := "law.go:55", after := #[{ on := 7, ground := Ground.data }], guard := none }) (by rfl) (by kernel_rfl) (by kernel_rfl) (by kernel_rfl) (fun _ _ _ h => h) (Or.inl ⟨by rfl, ?_⟩) (by assumption) ?_; rotate_left; focus (intro w hSw; (try dsimp only at hSw); go_simp; (try with_reducible rfl); done)
        (try simp only [Act.put, List.setIfInBounds_toArray, List.set_cons_zero, List.set_cons_succ])
        refine wpAnyH_take (i := 9) (v := ?_) (oi := { dst := some 77, op := Op.fieldAddr 53 (Operand.tmp 7) 0, type := 0, pos := "law.go:55", after := #[], guard := none }) (by rfl) (by kernel_rfl) (by kernel_rfl) (by kernel_rfl) (fun _ _ _ h => h) (Or.inl ⟨by rfl, ?_⟩) (by assumption) ?_; rotate_left; focus (intro w hSw; (try dsimp only at hSw); go_simp; (try with_reducible rfl); done)
        (try simp only [Act.put, List.setIfInBounds_toArray, List.set_cons_zero, List.set_cons_succ])
        refine wpAnyH_take (i := 10) (v := ?_) (oi := { dst := some 78, op := Op.load 5 (Operand.tmp 77), type := 5, pos := "law.go:55", after := #[{ on := 9, ground := Ground.data }], guard := none }) (by rfl) (by kernel_rfl) (by kernel_rfl) (by kernel_rfl) (fun _ _ _ h => h) (Or.inl ⟨by rfl, ?_⟩) (by assumption) ?_; rotate_left; focus (intro w hSw; (try dsimp only at hSw); go_simp; (try with_reducible rfl); done)
        (try simp only [Act.put, List.setIfInBounds_toArray, List.set_cons_zero, List.set_cons_succ])
        refine wpAnyH_take (i := 11) (v := ?_) (oi := { dst := some 79, op := Op.binOp BinOp.rem 5 (Operand.tmp 78) (Operand.const (Value.int IntKind.u8 4)) 5, type := 5, pos := "law.go:55", after := #[{ on := 10, ground := Ground.data }], guard := none }) (by rfl) (by kernel_rfl) (by kernel_rfl) (by kernel_rfl) (fun _ _ _ h => h) (Or.inl ⟨by rfl, ?_⟩) (by assumption) ?_; rotate_left; focus (intro w hSw; (try dsimp only at hSw); go_simp; (try with_reducible rfl); done)
        (try simp only [Act.put, List.setIfInBounds_toArray, List.set_cons_zero, List.set_cons_succ])
        refine wpAnyH_take (i := 12) (v := ?_) (oi := { dst := some 80, op := Op.convert 5 3 (Operand.tmp 79), type := 3, pos := "law.go:55", after := #[{ on := 11, ground := Ground.data }], guard := none }) (by rfl) (by kernel_rfl) (by kernel_rfl) (by kernel_rfl) (fun _ _ _ h => h) (Or.inl ⟨by rfl, ?_⟩) (by assumption) ?_; rotate_left; focus (intro w hSw; (try dsimp only at hSw); go_simp; (try with_reducible rfl); done)
        (try simp only [Act.put, List.setIfInBounds_toArray, List.set_cons_zero, List.set_cons_succ])
        refine wpAnyH_ready (rs := [0, 14]) (by kernel_rfl) (by simp) ?_
        focus
          refine AllReadyH.cons (o := { dst := some 68, op := Op.call { callee := Callee.value (Operand.func 16), args := #[], argTypes := #[] }, type := 44, pos := "law.go:55", after := #[], guard := none }) (by rfl) (fun K hK => ?_) (AllReadyH.cons (o := { dst := some 8, op := Op.alloc 57, type := 0, pos := "law.go:55", after := #[], guard := none }) (by rfl) (fun K hK => ?_) (AllReadyH.nil))
          focus
            go_simp
            (go_at_call 16; refine (holders_ok _).mono ?_; rintro e w4 ⟨g, rfl, hg, hg0, hg1, hb4'⟩; have hb4 : Below _ _ w4 := (by first | with_reducible exact noDrew hb4' | exact hb4'); clear hb4'; obtain ⟨hcc4, hff4⟩ := bcell hb4; have hs4 := hb4.size; (try simp at hs4); have hz4 : wr.heap.size < w4.heap.size := (by first | omega | (have h := hb4.size; (try simp at h); omega)); have hgk := hg k hk5'; clear hg; (try simp at hg0); (try have hgn : ¬ w3.heap.size = g := (by omega)); (try have hgn1 : ¬ g = w3.heap.size := (by omega)); have hgn2 : ¬ w4.heap.size = g := (by omega); have hgn3 : ¬ g = w4.heap.size := (by omega); have hgs : w3.heap.size ≤ w4.heap.size := (by first | omega | (have h := hb4.size; (try simp at h); omega)))
            go_wp2_with fail
            refine shut_more hK (S' := fun w' => (w'.cell? ⟨wr.heap.size, 0, none⟩ = some (.int .u8 s.st) ∧ w'.cell? ⟨wr.heap.size, 1, none⟩ = some (.int .u16 s.sq)) ∧ w'.cell? ⟨g, k, none⟩ = some (.int .i64 (holdersL.getD k 0))) (fun w h => h.1) (by first | exact ⟨⟨by go_simp, by go_simp⟩, by go_simp⟩) (fun hHeld => ?_)
            clear hK K
            (try simp only [Act.put, List.setIfInBounds_toArray, List.set_cons_zero, List.set_cons_succ])
            refine wpAnyH_take (i := 2) (v := ?_) (oi := { dst := some 70, op := Op.indexAddr 44 (Operand.tmp 68) (Operand.tmp 69), type := 0, pos := "law.go:55", after := #[{ on := 0, ground := Ground.data }, { on := 1, ground := Ground.data }], guard := none }) (by rfl) (by kernel_rfl) (by kernel_rfl) (by kernel_rfl) (fun _ _ _ h => h) (Or.inl ⟨by rfl, ?_⟩) (by assumption) ?_; rotate_left; focus (intro w hSw; (try dsimp only at hSw); go_simp; (try with_reducible rfl); done)
            (try simp only [Act.put, List.setIfInBounds_toArray, List.set_cons_zero, List.set_cons_succ])
            refine wpAnyH_take (i := 3) (v := ?_) (oi := { dst := some 71, op := Op.load 3 (Operand.tmp 70), type := 3, pos := "law.go:55", after := #[{ on := 2, ground := Ground.data }], guard := none }) (by rfl) (by kernel_rfl) (by kernel_rfl) (by kernel_rfl) (fun _ _ _ h => h) (Or.inl ⟨by rfl, ?_⟩) (by assumption) ?_; rotate_left; focus (intro w hSw; (try dsimp only at hSw); go_simp; (try with_reducible rfl); done)
            (try simp only [Act.put, List.setIfInBounds_toArray, List.set_cons_zero, List.set_cons_succ])
            refine wpAnyH_take (i := 13) (v := ?_) (oi := { dst := some 81, op := Op.build 57 #[(0, Operand.tmp 71), (1, Operand.tmp 76), (2, Operand.tmp 80)], type := 57, pos := "law.go:55", after := #[{ on := 3, ground := Ground.data }, { on := 8, ground := Ground.data }, { on := 12, ground := Ground.data }], guard := none }) (by rfl) (by kernel_rfl) (by kernel_rfl) (by kernel_rfl) (fun _ _ _ h => h) (Or.inl ⟨by rfl, ?_⟩) (by assumption) ?_; rotate_left; focus (intro w hSw; (try dsimp only at hSw); go_simp; (try with_reducible rfl); done)
            (try simp only [Act.put, List.setIfInBounds_toArray, List.set_cons_zero, List.set_cons_succ])
            refine wpAnyH_ready (rs := [14]) (by kernel_rfl) (by simp) ?_
            refine AllReadyH.cons (o := { dst := some 8, op := Op.alloc 57, type := 0, pos := "law.go:55", after := #[], guard := none }) (by rfl) (fun K hK => ?_) (AllReadyH.nil)
            go_simp
            skip
            go_wp2_with fail
            refine hK.out _ _ (by first | exact ⟨⟨by go_simp, by go_simp⟩, by go_simp⟩) (fun hHeld => ?_)
            clear hK K
            (try simp only [Act.put, List.setIfInBounds_toArray, List.set_cons_zero, List.set_cons_succ])
            refine wpAnyH_ready (rs := [15]) (by kernel_rfl) (by simp) ?_
            refine AllReadyH.cons (o := { dst := none, op := Op.store 57 (Operand.tmp 8) (Operand.tmp 81), type := 0, pos := "law.go:55", after := #[{ on := 14, ground := Ground.data }, { on := 13, ground := Ground.data }, { on := 0, ground := Ground.chain }, { on := 0, ground := Ground.phase }, { on := 1, ground := Ground.phase }, { on := 2, ground := Ground.phase }, { on := 3, ground := Ground.phase }, { on := 4, ground := Ground.phase }, { on := 5, ground := Ground.phase }, { on := 6, ground := Ground.phase }, { on := 7, ground := Ground.phase }, { on := 8, ground := Ground.phase }, { on := 9, ground := Ground.phase }, { on := 10, ground := Ground.phase }, { on := 11, ground := Ground.phase }, { on := 12, ground := Ground.phase }, { on := 13, ground := Ground.phase }, { on := 14, ground := Ground.phase }], guard := none }) (by rfl) (fun K hK => ?_) (AllReadyH.nil)
            go_simp
            skip
            go_wp2_with fail
            refine hK.out _ _ (by first | exact ⟨⟨by go_simp, by go_simp⟩, by go_simp⟩) (fun hHeld => ?_)
            clear hK K
            (try simp only [Act.put, List.setIfInBounds_toArray, List.set_cons_zero, List.set_cons_succ])
            refine wpAnyH_done (by kernel_rfl) ?_ _
          rotate_left 1
          focus
            go_simp
            skip
            go_wp2_with fail
            refine hK.out _ _ (by first | exact ⟨by go_simp, by go_simp⟩) (fun hHeld => ?_)
            clear hK K
            (try simp only [Act.put, List.setIfInBounds_toArray, List.set_cons_zero, List.set_cons_succ])
            refine wpAnyH_ready (rs := [0]) (by kernel_rfl) (by simp) ?_
            refine AllReadyH.cons (o := { dst := some 68, op := Op.call { callee := Callee.value (Operand.func 16), args := #[], argTypes := #[] }, type := 44, pos := "law.go:55", after := #[], guard := none }) (by rfl) (fun K hK => ?_) (AllReadyH.nil)
            go_simp
            (go_at_call 16; refine (holders_ok _).mono ?_; rintro e w4 ⟨g, rfl, hg, hg0, hg1, hb4'⟩; have hb4 : Below _ _ w4 := (by first | with_reducible exact noDrew hb4' | exact hb4'); clear hb4'; obtain ⟨hcc4, hff4⟩ := bcell hb4; have hs4 := hb4.size; (try simp at hs4); have hz4 : wr.heap.size < w4.heap.size := (by first | omega | (have h := hb4.size; (try simp at h); omega)); have hgk := hg k hk5'; clear hg; (try simp at hg0); (try have hgn : ¬ w3.heap.size = g := (by omega)); (try have hgn1 : ¬ g = w3.heap.size := (by omega)); have hgn2 : ¬ w4.heap.size = g := (by omega); have hgn3 : ¬ g = w4.heap.size := (by omega); have hgs : w3.heap.size ≤ w4.heap.size := (by first | omega | (have h := hb4.size; (try simp at h); omega)))
            go_wp2_with fail
            refine shut_more hK (S' := fun w' => (w'.cell? ⟨wr.heap.size, 0, none⟩ = some (.int .u8 s.st) ∧ w'.cell? ⟨wr.heap.size, 1, none⟩ = some (.int .u16 s.sq)) ∧ w'.cell? ⟨g, k, none⟩ = some (.int .i64 (holdersL.getD k 0))) (fun w h => h.1) (by first | exact ⟨⟨by go_simp, by go_simp⟩, by go_simp⟩) (fun hHeld => ?_)
            clear hK K
            (try simp only [Act.put, List.setIfInBounds_toArray, List.set_cons_zero, List.set_cons_succ])
            refine wpAnyH_take (i := 2) (v := ?_) (oi := { dst := some 70, op := Op.indexAddr 44 (Operand.tmp 68) (Operand.tmp 69), type := 0, pos := "law.go:55", after := #[{ on := 0, ground := Ground.data }, { on := 1, ground := Ground.data }], guard := none }) (by rfl) (by kernel_rfl) (by kernel_rfl) (by kernel_rfl) (fun _ _ _ h => h) (Or.inl ⟨by rfl, ?_⟩) (by assumption) ?_; rotate_left; focus (intro w hSw; (try dsimp only at hSw); go_simp; (try with_reducible rfl); done)
            (try simp only [Act.put, List.setIfInBounds_toArray, List.set_cons_zero, List.set_cons_succ])
            refine wpAnyH_take (i := 3) (v := ?_) (oi := { dst := some 71, op := Op.load 3 (Operand.tmp 70), type := 3, pos := "law.go:55", after := #[{ on := 2, ground := Ground.data }], guard := none }) (by rfl) (by kernel_rfl) (by kernel_rfl) (by kernel_rfl) (fun _ _ _ h => h) (Or.inl ⟨by rfl, ?_⟩) (by assumption) ?_; rotate_left; focus (intro w hSw; (try dsimp only at hSw); go_simp; (try with_reducible rfl); done)
            (try simp only [Act.put, List.setIfInBounds_toArray, List.set_cons_zero, List.set_cons_succ])
            refine wpAnyH_take (i := 13) (v := ?_) (oi := { dst := some 81, op := Op.build 57 #[(0, Operand.tmp 71), (1, Operand.tmp 76), (2, Operand.tmp 80)], type := 57, pos := "law.go:55", after := #[{ on := 3, ground := Ground.data }, { on := 8, ground := Ground.data }, { on := 12, ground := Ground.data }], guard := none }) (by rfl) (by kernel_rfl) (by kernel_rfl) (by kernel_rfl) (fun _ _ _ h => h) (Or.inl ⟨by rfl, ?_⟩) (by assumption) ?_; rotate_left; focus (intro w hSw; (try dsimp only at hSw); go_simp; (try with_reducible rfl); done)
            (try simp only [Act.put, List.setIfInBounds_toArray, List.set_cons_zero, List.set_cons_succ])
            refine wpAnyH_ready (rs := [15]) (by kernel_rfl) (by simp) ?_
            refine AllReadyH.cons (o := { dst := none, op := Op.store 57 (Operand.tmp 8) (Operand.tmp 81), type := 0, pos := "law.go:55", after := #[{ on := 14, ground := Ground.data }, { on := 13, ground := Ground.data }, { on := 0, ground := Ground.chain }, { on := 0, ground := Ground.phase }, { on := 1, ground := Ground.phase }, { on := 2, ground := Ground.phase }, { on := 3, ground := Ground.phase }, { on := 4, ground := Ground.phase }, { on := 5, ground := Ground.phase }, { on := 6, ground := Ground.phase }, { on := 7, ground := Ground.phase }, { on := 8, ground := Ground.phase }, { on := 9, ground := Ground.phase }, { on := 10, ground := Ground.phase }, { on := 11, ground := Ground.phase }, { on := 12, ground := Ground.phase }, { on := 13, ground := Ground.phase }, { on := 14, ground := Ground.phase }], guard := none }) (by rfl) (fun K hK => ?_) (AllReadyH.nil)
            go_simp
            skip
            go_wp2_with fail
            refine hK.out _ _ (by first | exact ⟨⟨by go_simp, by go_simp⟩, by go_simp⟩) (fun hHeld => ?_)
            clear hK K
            (try simp only [Act.put, List.setIfInBounds_toArray, List.set_cons_zero, List.set_cons_succ])
            refine wpAnyH_done (by kernel_rfl) ?_ _
          rotate_left 1
        all_goals go_wp2_with fail
        all_goals go_meet
        all_goals rw [Hwq1.out, Hwq2.out]
        all_goals exact ⟨_, rfl, by (try simp) <;> (try omega), BoxC.of4 (by go_simp; rfl) (by go_simp) (by go_simp) (by go_simp) (fun o => by go_simp), (by repeat' (first | with_reducible exact Below.refl _ _ | with_reducible assumption | with_reducible refine Below.alloc ?_ ?_ _ | with_reducible refine Below.setCell ?_ ?_ _ | with_reducible refine Below.drew ?_ | with_reducible refine below_drewN ?_ _ | with_reducible refine Below.trans ?_ (Below.mono (by with_reducible assumption) ?_) | omega | (simp <;> omega)))⟩
      case rest =>
        obtain ⟨wd, hwd⟩ : ∃ wd : World, wd = wc := ⟨_, rfl⟩
        subst hwd
        obtain ⟨D, rfl, hD, hX0, hBc⟩ := hcut
        have hszc := hBc.size
        have hDc := hX0.2.2
        have hB4 : Below wr.heap.size wr wd := hB3.trans (hBc.mono hB3.size)
        have n2 := (hBc.cell (p := ⟨wr.heap.size, 2, none⟩) hz3).trans m2
        have n3 := (hBc.cell (p := ⟨wr.heap.size, 3, none⟩) hz3).trans m3
        have n4 := (hBc.cell (p := ⟨wr.heap.size, 4, none⟩) hz3).trans m4
        have n5 := (hBc.cell (p := ⟨wr.heap.size, 5, none⟩) hz3).trans m5
        have g0 := (hB4.cell (p := ⟨w1.heap.size, 0, none⟩) hyr).trans f0
        have g1 := (hB4.cell (p := ⟨w1.heap.size, 1, none⟩) hyr).trans f1
        have g2 := (hB4.cell (p := ⟨w1.heap.size, 2, none⟩) hyr).trans f2
        have X0 := hide hX0
        have HM4 := hide (HM.out.grow hB4)
        have HS4 := hide (HSr.out.below hB4)
        have hzrc : wr.heap.size < wd.heap.size := by omega
        have hyrc : w1.heap.size < wd.heap.size := by omega
        have T1 := hide (R1.out.below (hB4.mono (by omega)))
        have T2 := hide (R2.out.below (hB4.mono (by omega)))
        have T3 := hide (R3.out.below (hB4.mono (by omega)))
        obtain ⟨i0, hi, iz0, iz1, iz2⟩ := info_parts info_entry
        clear m0 m1 m2 m3 m4 m5 hX0 R1 R2 R3
        go_wp2_with fail
        obtain ⟨I2, hxI2⟩ : ∃ I : Act → World → Prop, I = (fun a wq => a.tmps.size = 282 ∧ a.defers = [] ∧ (∃ (j n' : Nat) (v : Value), (a.tmps.toList[1]? = some (.pointer (some ⟨w.heap.size, 0, none⟩))) ∧ (a.tmps.toList[2]? = some (.slice none 0 0)) ∧ (a.tmps.toList[3]? = some (.bool false)) ∧ (a.tmps.toList[4]? = some (.pointer (some ⟨w1.heap.size, 0, none⟩))) ∧ (a.tmps.toList[5]? = some (.slice (some ⟨G, 0, none⟩) 448 448)) ∧ (a.tmps.toList[6]? = some (.int .i64 k)) ∧ (a.tmps.toList[7]? = some (.pointer (some ⟨wr.heap.size, 0, none⟩))) ∧ (a.tmps.toList[8]? = some (.pointer (some ⟨D, 0, none⟩))) ∧ (a.tmps.toList[9]? = some (.int .i64 (entsTo s j).1)) ∧ (a.tmps.toList[61]? = some (.slice (some ⟨b0, off, none⟩) sl.length cs)) ∧ (a.tmps.toList[62]? = some (.int .i64 sl.length)) ∧ (a.tmps.toList[63]? = some (.int .i64 k)) ∧ (a.tmps.toList[83]? = some (.slice Aa s.at_.length ca)) ∧ (a.tmps.toList[84]? = some (.int .i64 s.at_.length)) ∧ (a.tmps.toList[85]? = some (.int .i64 j)) ∧ j ≤ s.at_.length ∧ n' = (entsTo s j).2.length ∧ BoxC D [.int .i64 (slWho k), .int .i64 (s.sq % 9 + 1), .int .i64 (s.st % 4), v] wq ∧ wq.ownsRow wd.heap.size 64 6 v n' ((entsTo s j).2.flatMap ec) ∧ Below D wd wq ∧ wd.heap.size ≤ wq.heap.size)) := ⟨_, rfl⟩
        have HI2 := hide hxI2
        clear hxI2
        refine wp_loop I2 (fun a wq => s.at_.length - (intOf (a.tmps.getD 85 undef)).toNat) ?_ ?_
        · rw [HI2.out]
          exact ⟨rfl, rfl, 0, 0, .slice none 0 0, rfl, rfl, rfl, rfl, rfl, rfl, rfl, rfl, rfl, rfl, rfl, rfl, rfl, rfl, rfl, by omega, rfl, X0.out, World.ownsRow_nil _ _ _ _, Below.refl _ _, Nat.le_refl _⟩
        · skip
          intro a wq hI
          rw [HI2.out] at hI
          obtain ⟨hsz0, hdf0, hI⟩ := hI
          revert hI
          revert hdf0
          revert hsz0
          revert a
          refine elim282 ?_
          intro fr0 fr1 fr2 fr3 fr4 fr5 fr6 fr7 fr8 fr9 fr10 fr11 fr12 fr13 fr14 fr15 fr16 fr17 fr18 fr19 fr20 fr21 fr22 fr23 fr24 fr25 fr26 fr27 fr28 fr29 fr30 fr31 fr32 fr33 fr34 fr35 fr36 fr37 fr38 fr39 fr40 fr41 fr42 fr43 fr44 fr45 fr46 fr47 fr48 fr49 fr50 fr51 fr52 fr53 fr54 fr55 fr56 fr57 fr58 fr59 fr60 fr61 fr62 fr63 fr64 fr65 fr66 fr67 fr68 fr69 fr70 fr71 fr72 fr73 fr74 fr75 fr76 fr77 fr78 fr79 fr80 fr81 fr82 fr83 fr84 fr85 fr86 fr87 fr88 fr89 fr90 fr91 fr92 fr93 fr94 fr95 fr96 fr97 fr98 fr99 fr100 fr101 fr102 fr103 fr104 fr105 fr106 fr107 fr108 fr109 fr110 fr111 fr112 fr113 fr114 fr115 fr116 fr117 fr118 fr119 fr120 fr121 fr122 fr123 fr124 fr125 fr126 fr127 fr128 fr129 fr130 fr131 fr132 fr133 fr134 fr135 fr136 fr137 fr138 fr139 fr140 fr141 fr142 fr143 fr144 fr145 fr146 fr147 fr148 fr149 fr150 fr151 fr152 fr153 fr154 fr155 fr156 fr157 fr158 fr159 fr160 fr161 fr162 fr163 fr164 fr165 fr166 fr167 fr168 fr169 fr170 fr171 fr172 fr173 fr174 fr175 fr176 fr177 fr178 fr179 fr180 fr181 fr182 fr183 fr184 fr185 fr186 fr187 fr188 fr189 fr190 fr191 fr192 fr193 fr194 fr195 fr196 fr197 fr198 fr199 fr200 fr201 fr202 fr203 fr204 fr205 fr206 fr207 fr208 fr209 fr210 fr211 fr212 fr213 fr214 fr215 fr216 fr217 fr218 fr219 fr220 fr221 fr222 fr223 fr224 fr225 fr226 fr227 fr228 fr229 fr230 fr231 fr232 fr233 fr234 fr235 fr236 fr237 fr238 fr239 fr240 fr241 fr242 fr243 fr244 fr245 fr246 fr247 fr248 fr249 fr250 fr251 fr252 fr253 fr254 fr255 fr256 fr257 fr258 fr259 fr260 fr261 fr262 fr263 fr264 fr265 fr266 fr267 fr268 fr269 fr270 fr271 fr272 fr273 fr274 fr275 fr276 fr277 fr278 fr279 fr280 fr281
          intro hI
          obtain ⟨j, n', v, g1, g2, g3, g4, g5, g6, g7, g8, g9, g61, g62, g63, g83, g84, g85, hj, hn', hX, hown, hBq, hsq⟩ := hI
          have e1 := Option.some.inj g1; subst e1
          have e2 := Option.some.inj g2; subst e2
          have e3 := Option.some.inj g3; subst e3
          have e4 := Option.some.inj g4; subst e4
          have e5 := Option.some.inj g5; subst e5
          have e6 := Option.some.inj g6; subst e6
          have e7 := Option.some.inj g7; subst e7
          have e8 := Option.some.inj g8; subst e8
          have e9 := Option.some.inj g9; subst e9
          have e61 := Option.some.inj g61; subst e61
          have e62 := Option.some.inj g62; subst e62
          have e63 := Option.some.inj g63; subst e63
          have e83 := Option.some.inj g83; subst e83
          have e84 := Option.some.inj g84; subst e84
          have e85 := Option.some.inj g85; subst e85
          clear g1 g2 g3 g4 g5 g6 g7 g8 g9 g61 g62 g63 g83 g84 g85
          obtain ⟨A', capv, rfl, hcpv, hblv⟩ := own_slice hown
          have hgood := entsTo_good s (O1.out s (List.mem_of_getElem? Hz.out)) j
          obtain ⟨⟨hg1, hg2⟩, hg3, hg4, hg5⟩ := hgood
          have hDw : w1.heap.size < D := by omega
          have hDr : wr.heap.size < D := by omega
          have p2 := (hBq.cell (p := ⟨wr.heap.size, 2, none⟩) hDr).trans n2
          have p3 := (hBq.cell (p := ⟨wr.heap.size, 3, none⟩) hDr).trans n3
          have p4 := (hBq.cell (p := ⟨wr.heap.size, 4, none⟩) hDr).trans n4
          have p5 := (hBq.cell (p := ⟨wr.heap.size, 5, none⟩) hDr).trans n5
          have k0 := (hBq.cell (p := ⟨w1.heap.size, 0, none⟩) hDw).trans g0
          have k1 := (hBq.cell (p := ⟨w1.heap.size, 1, none⟩) hDw).trans g1
          have k2 := (hBq.cell (p := ⟨w1.heap.size, 2, none⟩) hDw).trans g2
          have HSq := hide (HS4.out.below' (by omega) hBq)
          have U1 := hide (T1.out.below (hBq.mono (by omega)))
          have U2 := hide (T2.out.below (hBq.mono (by omega)))
          have U3 := hide (T3.out.below (hBq.mono (by omega)))
          have hzq : wr.heap.size < wq.heap.size := by omega
          have hyq : w1.heap.size < wq.heap.size := by omega
          have hDq : D < wq.heap.size := by omega
          unfold maxLen at q8 q9 q10
          by_cases hlt2 : j < s.at_.length
          · have hza : s.at_[j]? = some (s.at_[j]'hlt2) := List.getElem?_eq_getElem hlt2
            obtain ⟨av, hav⟩ : ∃ av, av = s.at_[j]'hlt2 := ⟨_, rfl⟩
            rw [← hav] at hza
            obtain ⟨av0, av1⟩ := Q5.out av (List.mem_of_getElem? hza)
            obtain ⟨ba, oa, rfl, hba, hca⟩ := rd_int8 U1.out hlt2 hza
            have hstep := entsTo_succ s j
            unfold entStep at hstep
            rw [List.getD_eq_getElem?_getD, hza] at hstep
            simp only [Option.getD_some] at hstep
            obtain ⟨⟨ls, es⟩, hes⟩ : ∃ p, p = entsTo s j := ⟨_, rfl⟩
            rw [← hes] at hstep hn' hown hg1 hg2 hg3 hg4 hg5 ⊢
            simp only [] at hstep hn' hown hg1 hg2 hg3 hg4 hg5 ⊢
            subst hn'
            have Hstep := hide hstep
            have Hg5 := hide hg5
            have Hown := hide hown
            have hav8 : 0 ≤ av % 8 ∧ av % 8 < 8 := by omega
            have hj0 : (0 : Int) ≤ (j : Int) := by omega
            have hj1 : (j : Int) < (s.at_.length : Int) := by omega
            have hbaq : ba < wq.heap.size := by omega
            clear hstep hes hav hza hown hg5
            by_cases c1 : ls < av % 8
            · by_cases c2 : j < s.old.length
              · by_cases c3 : j < s.nw.length
                · by_cases c4 : j < 4
                  · obtain ⟨x, hx⟩ : ∃ x, s.old[j]? = some x := ⟨_, List.getElem?_eq_getElem c2⟩
                    obtain ⟨nv, hnv⟩ : ∃ x, s.nw[j]? = some x := ⟨_, List.getElem?_eq_getElem c3⟩
                    have hxok := Q6.out x (List.mem_of_getElem? hx)
                    obtain ⟨x1, x2, x3, x4, -, -⟩ := hxok
                    obtain ⟨bo, oo, rfl, hbo, hco⟩ := U2.out.elem (fun _ => rfl) c2 hx
                    obtain ⟨bn, on, rfl, hbn, hcn⟩ := rd_int U3.out c3 hnv
                    have o0 : wq.cell? ⟨bo, oo + j * 3, none⟩ = some (.int .i64 x.v) := hco 0 _ rfl
                    have o1 : wq.cell? ⟨bo, oo + j * 3 + 1, none⟩ = some (.int .u32 x.r) := hco 1 _ rfl
                    have hst : Hid (entsTo s (j + 1) = (av % 8, es ++ [entOf s j (av % 8)])) := hide (by rw [Hstep.out]; exact (by rw [if_pos ⟨c1, c2, c3, c4⟩]))
                    have hent : entOf s j (av % 8) = ⟨atL 3 8 2 3 (av % 8) 0, ⟨x.v, x.r % 9, 0⟩, if s.wr = true then nv else x.v, s.wr⟩ := by
                      unfold entOf
                      rw [List.getD_eq_getElem?_getD, hx, List.getD_eq_getElem?_getD, hnv]
                      rfl
                    have Hent := hide hent
                    have hwm : IntKind.u32.wrap (x.r.tmod 9) = x.r % 9 := by rw [Int.tmod_eq_emod_of_nonneg x3]; exact wraps_u32 _ (by omega) (by omega)
                    have Hwm := hide hwm
                    have Htm := hide (Int.tmod_eq_emod_of_nonneg (b := 9) x3)
                    have c2i : (j : Int) < (s.old.length : Int) := by omega
                    have c3i : (j : Int) < (s.nw.length : Int) := by omega
                    have c4i : (j : Int) < 4 := by omega
                    have hboq : bo < wq.heap.size := by omega
                    have hbnq : bn < wq.heap.size := by omega
                    have hcell := fun W hs' => cell_ok 3 8 2 (av % 8) W valid382 hs'
                    obtain ⟨ac, hac⟩ : ∃ ac, ac = atL 3 8 2 3 (av % 8) 0 := ⟨_, rfl⟩
                    simp only [← hac] at hcell
                    have Hcell := hide hcell
                    have Hac := hide hac
                    clear hco hx hnv hent hwm hcell hac
                    go_upto_region 16 with fail
                    go_cut [13] (fun s13 wx => ∃ E : Nat, s13 = .pointer (some ⟨E, 0, none⟩) ∧ wq.heap.size ≤ E ∧ BoxC E [.int .i64 ac, .int .i64 x.v, .int .u32 (x.r % 9), .int .u32 0, .int .i64 nv, .bool s.wr] wx ∧ Below wq.heap.size wq wx)
                    case first =>
                      refine wp_region_held_drew (S := (fun w' => (w'.cell? ⟨w1.heap.size, 0, none⟩ = some (.int .i64 3) ∧ w'.cell? ⟨w1.heap.size, 1, none⟩ = some (.int .i64 8) ∧ w'.cell? ⟨w1.heap.size, 2, none⟩ = some (.int .i64 2)) ∧ (w'.cell? ⟨wr.heap.size, 3, none⟩ = some (.slice (some ⟨bo, oo, none⟩) s.old.length co) ∧ w'.cell? ⟨wr.heap.size, 4, none⟩ = some (.slice (some ⟨bn, on, none⟩) s.nw.length cn) ∧ w'.cell? ⟨wr.heap.size, 5, none⟩ = some (.bool s.wr)) ∧ w'.cell? ⟨bo, oo + j * 3, none⟩ = some (.int .i64 x.v) ∧ w'.cell? ⟨bo, oo + j * 3 + 1, none⟩ = some (.int .u32 x.r) ∧ w'.cell? ⟨bn, on + j, none⟩ = some (.int .i64 nv))) (by kernel_rfl) (by first | exact ⟨⟨by go_simp, by go_simp, by go_simp⟩, ⟨by go_simp, by go_simp, by go_simp⟩, by go_simp, by go_simp, by go_simp⟩) (fun hHeld => ?_)
                      refine wpAnyH_take (i := 0) (v := ?_) (oi := { dst := some 115, op := Op.load 31 (Operand.tmp 4), type := 31, pos := "law.go:60", after := #[], guard := none }) (by rfl) (by kernel_rfl) (by kernel_rfl) (by kernel_rfl) (fun _ _ _ h => h) (Or.inl ⟨by rfl, ?_⟩) (by assumption) ?_; rotate_left; focus (intro w hSw; (try dsimp only at hSw); go_simp; (try with_reducible rfl); done)
                      (try simp only [Act.put, List.setIfInBounds_toArray, List.set_cons_zero, List.set_cons_succ])
                      refine wpAnyH_take (i := 1) (v := ?_) (oi := { dst := some 116, op := Op.move (Operand.tmp 12), type := 3, pos := "law.go:60", after := #[], guard := none }) (by rfl) (by kernel_rfl) (by kernel_rfl) (by kernel_rfl) (fun _ _ _ h => h) (Or.inl ⟨by rfl, ?_⟩) (by assumption) ?_; rotate_left; focus (intro w hSw; (try dsimp only at hSw); go_simp; (try with_reducible rfl); done)
                      (try simp only [Act.put, List.setIfInBounds_toArray, List.set_cons_zero, List.set_cons_succ])
                      refine wpAnyH_take (i := 3) (v := ?_) (oi := { dst := some 118, op := Op.fieldAddr 53 (Operand.tmp 7) 3, type := 0, pos := "law.go:60", after := #[], guard := none }) (by rfl) (by kernel_rfl) (by kernel_rfl) (by kernel_rfl) (fun _ _ _ h => h) (Or.inl ⟨by rfl, ?_⟩) (by assumption) ?_; rotate_left; focus (intro w hSw; (try dsimp only at hSw); go_simp; (try with_reducible rfl); done)
                      (try simp only [Act.put, List.setIfInBounds_toArray, List.set_cons_zero, List.set_cons_succ])
                      refine wpAnyH_take (i := 4) (v := ?_) (oi := { dst := some 119, op := Op.load 25 (Operand.tmp 118), type := 25, pos := "law.go:60", after := #[{ on := 3, ground := Ground.data }], guard := none }) (by rfl) (by kernel_rfl) (by kernel_rfl) (by kernel_rfl) (fun _ _ _ h => h) (Or.inl ⟨by rfl, ?_⟩) (by assumption) ?_; rotate_left; focus (intro w hSw; (try dsimp only at hSw); go_simp; (try with_reducible rfl); done)
                      (try simp only [Act.put, List.setIfInBounds_toArray, List.set_cons_zero, List.set_cons_succ])
                      refine wpAnyH_take (i := 5) (v := ?_) (oi := { dst := some 120, op := Op.move (Operand.tmp 10), type := 3, pos := "law.go:60", after := #[], guard := none }) (by rfl) (by kernel_rfl) (by kernel_rfl) (by kernel_rfl) (fun _ _ _ h => h) (Or.inl ⟨by rfl, ?_⟩) (by assumption) ?_; rotate_left; focus (intro w hSw; (try dsimp only at hSw); go_simp; (try with_reducible rfl); done)
                      (try simp only [Act.put, List.setIfInBounds_toArray, List.set_cons_zero, List.set_cons_succ])
                      refine wpAnyH_take (i := 6) (v := ?_) (oi := { dst := some 121, op := Op.indexAddr 25 (Operand.tmp 119) (Operand.tmp 120), type := 0, pos := "law.go:60", after := #[{ on := 4, ground := Ground.data }, { on := 5, ground := Ground.data }], guard := none }) (by rfl) (by kernel_rfl) (by kernel_rfl) (by kernel_rfl) (fun _ _ _ h => h) (Or.inl ⟨by rfl, ?_⟩) (by assumption) ?_; rotate_left; focus (intro w hSw; (try dsimp only at hSw); go_simp; (try with_reducible rfl); done)
                      (try simp only [Act.put, List.setIfInBounds_toArray, List.set_cons_zero, List.set_cons_succ])
                      refine wpAnyH_take (i := 7) (v := ?_) (oi := { dst := some 122, op := Op.fieldAddr 62 (Operand.tmp 121) 0, type := 0, pos := "law.go:60", after := #[{ on := 6, ground := Ground.data }], guard := none }) (by rfl) (by kernel_rfl) (by kernel_rfl) (by kernel_rfl) (fun _ _ _ h => h) (Or.inl ⟨by rfl, ?_⟩) (by assumption) ?_; rotate_left; focus (intro w hSw; (try dsimp only at hSw); go_simp; (try with_reducible rfl); done)
                      (try simp only [Act.put, List.setIfInBounds_toArray, List.set_cons_zero, List.set_cons_succ])
                      refine wpAnyH_take (i := 8) (v := ?_) (oi := { dst := some 123, op := Op.load 2 (Operand.tmp 122), type := 2, pos := "law.go:60", after := #[{ on := 7, ground := Ground.data }], guard := none }) (by rfl) (by kernel_rfl) (by kernel_rfl) (by kernel_rfl) (fun _ _ _ h => h) (Or.inl ⟨by rfl, ?_⟩) (by assumption) ?_; rotate_left; focus (intro w hSw; (try dsimp only at hSw); go_simp; (try with_reducible rfl); done)
                      (try simp only [Act.put, List.setIfInBounds_toArray, List.set_cons_zero, List.set_cons_succ])
                      refine wpAnyH_take (i := 9) (v := ?_) (oi := { dst := some 124, op := Op.fieldAddr 53 (Operand.tmp 7) 3, type := 0, pos := "law.go:60", after := #[], guard := none }) (by rfl) (by kernel_rfl) (by kernel_rfl) (by kernel_rfl) (fun _ _ _ h => h) (Or.inl ⟨by rfl, ?_⟩) (by assumption) ?_; rotate_left; focus (intro w hSw; (try dsimp only at hSw); go_simp; (try with_reducible rfl); done)
                      (try simp only [Act.put, List.setIfInBounds_toArray, List.set_cons_zero, List.set_cons_succ])
                      refine wpAnyH_take (i := 10) (v := ?_) (oi := { dst := some 125, op := Op.load 25 (Operand.tmp 124), type := 25, pos := "law.go:60", after := #[{ on := 9, ground := Ground.data }], guard := none }) (by rfl) (by kernel_rfl) (by kernel_rfl) (by kernel_rfl) (fun _ _ _ h => h) (Or.inl ⟨by rfl, ?_⟩) (by assumption) ?_; rotate_left; focus (intro w hSw; (try dsimp only at hSw); go_simp; (try with_reducible rfl); done)
                      (try simp only [Act.put, List.setIfInBounds_toArray, List.set_cons_zero, List.set_cons_succ])
                      refine wpAnyH_take (i := 11) (v := ?_) (oi := { dst := some 126, op := Op.move (Operand.tmp 10), type := 3, pos := "law.go:60", after := #[], guard := none }) (by rfl) (by kernel_rfl) (by kernel_rfl) (by kernel_rfl) (fun _ _ _ h => h) (Or.inl ⟨by rfl, ?_⟩) (by assumption) ?_; rotate_left; focus (intro w hSw; (try dsimp only at hSw); go_simp; (try with_reducible rfl); done)
                      (try simp only [Act.put, List.setIfInBounds_toArray, List.set_cons_zero, List.set_cons_succ])
                      refine wpAnyH_take (i := 12) (v := ?_) (oi := { dst := some 127, op := Op.indexAddr 25 (Operand.tmp 125) (Operand.tmp 126), type := 0, pos := "law.go:60", after := #[{ on := 10, ground := Ground.data }, { on := 11, ground := Ground.data }], guard := none }) (by rfl) (by kernel_rfl) (by kernel_rfl) (by kernel_rfl) (fun _ _ _ h => h) (Or.inl ⟨by rfl, ?_⟩) (by assumption) ?_; rotate_left; focus (intro w hSw; (try dsimp only at hSw); go_simp; (try with_reducible rfl); done)
                      (try simp only [Act.put, List.setIfInBounds_toArray, List.set_cons_zero, List.set_cons_succ])
                      refine wpAnyH_take (i := 13) (v := ?_) (oi := { dst := some 128, op := Op.fieldAddr 62 (Operand.tmp 127) 1, type := 0, pos := "law.go:60", after := #[{ on := 12, ground := Ground.data }], guard := none }) (by rfl) (by kernel_rfl) (by kernel_rfl) (by kernel_rfl) (fun _ _ _ h => h) (Or.inl ⟨by rfl, ?_⟩) (by assumption) ?_; rotate_left; focus (intro w hSw; (try dsimp only at hSw); go_simp; (try with_reducible rfl); done)
                      (try simp only [Act.put, List.setIfInBounds_toArray, List.set_cons_zero, List.set_cons_succ])
                      refine wpAnyH_take (i := 14) (v := ?_) (oi := { dst := some 129, op := Op.load 60 (Operand.tmp 128), type := 60, pos := "law.go:60", after := #[{ on := 13, ground := Ground.data }], guard := none }) (by rfl) (by kernel_rfl) (by kernel_rfl) (by kernel_rfl) (fun _ _ _ h => h) (Or.inl ⟨by rfl, ?_⟩) (by assumption) ?_; rotate_left; focus (intro w hSw; (try dsimp only at hSw); go_simp; (try with_reducible rfl); done)
                      (try simp only [Act.put, List.setIfInBounds_toArray, List.set_cons_zero, List.set_cons_succ])
                      refine wpAnyH_take (i := 15) (v := ?_) (oi := { dst := some 130, op := Op.binOp BinOp.rem 60 (Operand.tmp 129) (Operand.const (Value.int IntKind.u32 9)) 60, type := 60, pos := "law.go:60", after := #[{ on := 14, ground := Ground.data }], guard := none }) (by rfl) (by kernel_rfl) (by kernel_rfl) (by kernel_rfl) (fun _ _ _ h => h) (Or.inl ⟨by rfl, ?_⟩) (by assumption) ?_; rotate_left; focus (intro w hSw; (try dsimp only at hSw); go_simp; (try with_reducible rfl); done)
                      (try simp only [Act.put, List.setIfInBounds_toArray, List.set_cons_zero, List.set_cons_succ])
                      refine wpAnyH_take (i := 16) (v := ?_) (oi := { dst := some 131, op := Op.build 62 #[(0, Operand.tmp 123), (1, Operand.tmp 130)], type := 62, pos := "law.go:60", after := #[{ on := 8, ground := Ground.data }, { on := 15, ground := Ground.data }], guard := none }) (by rfl) (by kernel_rfl) (by kernel_rfl) (by kernel_rfl) (fun _ _ _ h => h) (Or.inl ⟨by rfl, ?_⟩) (by assumption) ?_; rotate_left; focus (intro w hSw; (try dsimp only at hSw); go_simp; (try with_reducible rfl); done)
                      (try simp only [Act.put, List.setIfInBounds_toArray, List.set_cons_zero, List.set_cons_succ])
                      refine wpAnyH_take (i := 17) (v := ?_) (oi := { dst := some 132, op := Op.fieldAddr 53 (Operand.tmp 7) 4, type := 0, pos := "law.go:60", after := #[], guard := none }) (by rfl) (by kernel_rfl) (by kernel_rfl) (by kernel_rfl) (fun _ _ _ h => h) (Or.inl ⟨by rfl, ?_⟩) (by assumption) ?_; rotate_left; focus (intro w hSw; (try dsimp only at hSw); go_simp; (try with_reducible rfl); done)
                      (try simp only [Act.put, List.setIfInBounds_toArray, List.set_cons_zero, List.set_cons_succ])
                      refine wpAnyH_take (i := 18) (v := ?_) (oi := { dst := some 133, op := Op.load 51 (Operand.tmp 132), type := 51, pos := "law.go:60", after := #[{ on := 17, ground := Ground.data }], guard := none }) (by rfl) (by kernel_rfl) (by kernel_rfl) (by kernel_rfl) (fun _ _ _ h => h) (Or.inl ⟨by rfl, ?_⟩) (by assumption) ?_; rotate_left; focus (intro w hSw; (try dsimp only at hSw); go_simp; (try with_reducible rfl); done)
                      (try simp only [Act.put, List.setIfInBounds_toArray, List.set_cons_zero, List.set_cons_succ])
                      refine wpAnyH_take (i := 19) (v := ?_) (oi := { dst := some 134, op := Op.move (Operand.tmp 10), type := 3, pos := "law.go:60", after := #[], guard := none }) (by rfl) (by kernel_rfl) (by kernel_rfl) (by kernel_rfl) (fun _ _ _ h => h) (Or.inl ⟨by rfl, ?_⟩) (by assumption) ?_; rotate_left; focus (intro w hSw; (try dsimp only at hSw); go_simp; (try with_reducible rfl); done)
                      (try simp only [Act.put, List.setIfInBounds_toArray, List.set_cons_zero, List.set_cons_succ])
                      refine wpAnyH_take (i := 20) (v := ?_) (oi := { dst := some 135, op := Op.indexAddr 51 (Operand.tmp 133) (Operand.tmp 134), type := 0, pos := "law.go:60", after := #[{ on := 18, ground := Ground.data }, { on := 19, ground := Ground.data }], guard := none }) (by rfl) (by kernel_rfl) (by kernel_rfl) (by kernel_rfl) (fun _ _ _ h => h) (Or.inl ⟨by rfl, ?_⟩) (by assumption) ?_; rotate_left; focus (intro w hSw; (try dsimp only at hSw); go_simp; (try with_reducible rfl); done)
                      (try simp only [Act.put, List.setIfInBounds_toArray, List.set_cons_zero, List.set_cons_succ])
                      refine wpAnyH_take (i := 21) (v := ?_) (oi := { dst := some 136, op := Op.load 2 (Operand.tmp 135), type := 2, pos := "law.go:60", after := #[{ on := 20, ground := Ground.data }], guard := none }) (by rfl) (by kernel_rfl) (by kernel_rfl) (by kernel_rfl) (fun _ _ _ h => h) (Or.inl ⟨by rfl, ?_⟩) (by assumption) ?_; rotate_left; focus (intro w hSw; (try dsimp only at hSw); go_simp; (try with_reducible rfl); done)
                      (try simp only [Act.put, List.setIfInBounds_toArray, List.set_cons_zero, List.set_cons_succ])
                      refine wpAnyH_take (i := 22) (v := ?_) (oi := { dst := some 137, op := Op.fieldAddr 53 (Operand.tmp 7) 5, type := 0, pos := "law.go:60", after := #[], guard := none }) (by rfl) (by kernel_rfl) (by kernel_rfl) (by kernel_rfl) (fun _ _ _ h => h) (Or.inl ⟨by rfl, ?_⟩) (by assumption) ?_; rotate_left; focus (intro w hSw; (try dsimp only at hSw); go_simp; (try with_reducible rfl); done)
                      (try simp only [Act.put, List.setIfInBounds_toArray, List.set_cons_zero, List.set_cons_succ])
                      refine wpAnyH_take (i := 23) (v := ?_) (oi := { dst := some 138, op := Op.load 4 (Operand.tmp 137), type := 4, pos := "law.go:60", after := #[{ on := 22, ground := Ground.data }], guard := none }) (by rfl) (by kernel_rfl) (by kernel_rfl) (by kernel_rfl) (fun _ _ _ h => h) (Or.inl ⟨by rfl, ?_⟩) (by assumption) ?_; rotate_left; focus (intro w hSw; (try dsimp only at hSw); go_simp; (try with_reducible rfl); done)
                      (try simp only [Act.put, List.setIfInBounds_toArray, List.set_cons_zero, List.set_cons_succ])
                      refine wpAnyH_ready (rs := [2, 25]) (by kernel_rfl) (by simp) ?_
                      focus
                        refine AllReadyH.cons (o := { dst := some 117, op := Op.call { callee := Callee.value (Operand.func 17), args := #[Operand.tmp 115, Operand.tmp 116], argTypes := #[31, 3] }, type := 58, pos := "law.go:60", after := #[{ on := 0, ground := Ground.data }, { on := 1, ground := Ground.data }], guard := none }) (by rfl) (fun K hK => ?_) (AllReadyH.cons (o := { dst := some 13, op := Op.alloc 64, type := 0, pos := "law.go:60", after := #[], guard := none }) (by rfl) (fun K hK => ?_) (AllReadyH.nil))
                        focus
                          go_simp
                          (go_at_call 17; refine (Hcell.out _ (HSq.out.below (by repeat' (first | with_reducible exact Below.refl _ _ | with_reducible assumption | with_reducible refine Below.alloc ?_ ?_ _ | with_reducible refine Below.setCell ?_ ?_ _ | with_reducible refine Below.drew ?_ | with_reducible refine below_drewN ?_ _ | with_reducible refine Below.trans ?_ (Below.mono (by with_reducible assumption) ?_) | omega | (simp <;> omega))))).mono ?_; rintro e w4 ⟨rfl, hb4'⟩; have hb4 : Below _ _ w4 := (by first | with_reducible exact noDrew hb4' | exact hb4'); clear hb4'; obtain ⟨hcc4, hff4⟩ := bcell hb4; have hs4 := hb4.size; (try simp at hs4); have hz4 : wr.heap.size < w4.heap.size := (by omega); have hy4 : w1.heap.size < w4.heap.size := (by omega); have hb4o : bo < w4.heap.size := (by omega); have hb4n : bn < w4.heap.size := (by omega); have hq4 : wq.heap.size ≤ w4.heap.size := (by omega))
                          go_wp2_with fail
                          refine hK.out _ _ (by first | exact ⟨⟨by go_simp, by go_simp, by go_simp⟩, ⟨by go_simp, by go_simp, by go_simp⟩, by go_simp, by go_simp, by go_simp⟩) (fun hHeld => ?_)
                          clear hK K
                          (try simp only [Act.put, List.setIfInBounds_toArray, List.set_cons_zero, List.set_cons_succ])
                          refine wpAnyH_take (i := 24) (v := ?_) (oi := { dst := some 139, op := Op.build 64 #[(0, Operand.tmp 117), (1, Operand.tmp 131), (2, Operand.tmp 136), (3, Operand.tmp 138)], type := 64, pos := "law.go:60", after := #[{ on := 2, ground := Ground.data }, { on := 16, ground := Ground.data }, { on := 21, ground := Ground.data }, { on := 23, ground := Ground.data }], guard := none }) (by rfl) (by kernel_rfl) (by kernel_rfl) (by kernel_rfl) (fun _ _ _ h => h) (Or.inl ⟨by rfl, ?_⟩) (by assumption) ?_; rotate_left; focus (intro w hSw; (try dsimp only at hSw); go_simp; (try with_reducible rfl); done)
                          (try simp only [Act.put, List.setIfInBounds_toArray, List.set_cons_zero, List.set_cons_succ])
                          refine wpAnyH_ready (rs := [25]) (by kernel_rfl) (by simp) ?_
                          refine AllReadyH.cons (o := { dst := some 13, op := Op.alloc 64, type := 0, pos := "law.go:60", after := #[], guard := none }) (by rfl) (fun K hK => ?_) (AllReadyH.nil)
                          go_simp
                          skip
                          go_wp2_with fail
                          refine hK.out _ _ (by first | exact ⟨⟨by go_simp, by go_simp, by go_simp⟩, ⟨by go_simp, by go_simp, by go_simp⟩, by go_simp, by go_simp, by go_simp⟩) (fun hHeld => ?_)
                          clear hK K
                          (try simp only [Act.put, List.setIfInBounds_toArray, List.set_cons_zero, List.set_cons_succ])
                          refine wpAnyH_ready (rs := [26]) (by kernel_rfl) (by simp) ?_
                          refine AllReadyH.cons (o := { dst := none, op := Op.store 64 (Operand.tmp 13) (Operand.tmp 139), type := 0, pos := "law.go:60", after := #[{ on := 25, ground := Ground.data }, { on := 24, ground := Ground.data }, { on := 2, ground := Ground.chain }, { on := 0, ground := Ground.phase }, { on := 1, ground := Ground.phase }, { on := 2, ground := Ground.phase }, { on := 3, ground := Ground.phase }, { on := 4, ground := Ground.phase }, { on := 5, ground := Ground.phase }, { on := 6, ground := Ground.phase }, { on := 7, ground := Ground.phase }, { on := 8, ground := Ground.phase }, { on := 9, ground := Ground.phase }, { on := 10, ground := Ground.phase }, { on := 11, ground := Ground.phase }, { on := 12, ground := Ground.phase }, { on := 13, ground := Ground.phase }, { on := 14, ground := Ground.phase }, { on := 15, ground := Ground.phase }, { on := 16, ground := Ground.phase }, { on := 17, ground := Ground.phase }, { on := 18, ground := Ground.phase }, { on := 19, ground := Ground.phase }, { on := 20, ground := Ground.phase }, { on := 21, ground := Ground.phase }, { on := 22, ground := Ground.phase }, { on := 23, ground := Ground.phase }, { on := 24, ground := Ground.phase }, { on := 25, ground := Ground.phase }], guard := none }) (by rfl) (fun K hK => ?_) (AllReadyH.nil)
                          go_simp
                          skip
                          go_wp2_with fail
                          refine hK.out _ _ (by first | exact ⟨⟨by go_simp, by go_simp, by go_simp⟩, ⟨by go_simp, by go_simp, by go_simp⟩, by go_simp, by go_simp, by go_simp⟩) (fun hHeld => ?_)
                          clear hK K
                          (try simp only [Act.put, List.setIfInBounds_toArray, List.set_cons_zero, List.set_cons_succ])
                          refine wpAnyH_done (by kernel_rfl) ?_ _
                        rotate_left 1
                        focus
                          go_simp
                          skip
                          go_wp2_with fail
                          refine hK.out _ _ (by first | exact ⟨⟨by go_simp, by go_simp, by go_simp⟩, ⟨by go_simp, by go_simp, by go_simp⟩, by go_simp, by go_simp, by go_simp⟩) (fun hHeld => ?_)
                          clear hK K
                          (try simp only [Act.put, List.setIfInBounds_toArray, List.set_cons_zero, List.set_cons_succ])
                          refine wpAnyH_ready (rs := [2]) (by kernel_rfl) (by simp) ?_
                          refine AllReadyH.cons (o := { dst := some 117, op := Op.call { callee := Callee.value (Operand.func 17), args := #[Operand.tmp 115, Operand.tmp 116], argTypes := #[31, 3] }, type := 58, pos := "law.go:60", after := #[{ on := 0, ground := Ground.data }, { on := 1, ground := Ground.data }], guard := none }) (by rfl) (fun K hK => ?_) (AllReadyH.nil)
                          go_simp
                          (go_at_call 17; refine (Hcell.out _ (HSq.out.below (by repeat' (first | with_reducible exact Below.refl _ _ | with_reducible assumption | with_reducible refine Below.alloc ?_ ?_ _ | with_reducible refine Below.setCell ?_ ?_ _ | with_reducible refine Below.drew ?_ | with_reducible refine below_drewN ?_ _ | with_reducible refine Below.trans ?_ (Below.mono (by with_reducible assumption) ?_) | omega | (simp <;> omega))))).mono ?_; rintro e w4 ⟨rfl, hb4'⟩; have hb4 : Below _ _ w4 := (by first | with_reducible exact noDrew hb4' | exact hb4'); clear hb4'; obtain ⟨hcc4, hff4⟩ := bcell hb4; have hs4 := hb4.size; (try simp at hs4); have hz4 : wr.heap.size < w4.heap.size := (by omega); have hy4 : w1.heap.size < w4.heap.size := (by omega); have hb4o : bo < w4.heap.size := (by omega); have hb4n : bn < w4.heap.size := (by omega); have hq4 : wq.heap.size ≤ w4.heap.size := (by omega))
                          go_wp2_with fail
                          refine hK.out _ _ (by first | exact ⟨⟨by go_simp, by go_simp, by go_simp⟩, ⟨by go_simp, by go_simp, by go_simp⟩, by go_simp, by go_simp, by go_simp⟩) (fun hHeld => ?_)
                          clear hK K
                          (try simp only [Act.put, List.setIfInBounds_toArray, List.set_cons_zero, List.set_cons_succ])
                          refine wpAnyH_take (i := 24) (v := ?_) (oi := { dst := some 139, op := Op.build 64 #[(0, Operand.tmp 117), (1, Operand.tmp 131), (2, Operand.tmp 136), (3, Operand.tmp 138)], type := 64, pos := "law.go:60", after := #[{ on := 2, ground := Ground.data }, { on := 16, ground := Ground.data }, { on := 21, ground := Ground.data }, { on := 23, ground := Ground.data }], guard := none }) (by rfl) (by kernel_rfl) (by kernel_rfl) (by kernel_rfl) (fun _ _ _ h => h) (Or.inl ⟨by rfl, ?_⟩) (by assumption) ?_; rotate_left; focus (intro w hSw; (try dsimp only at hSw); go_simp; (try with_reducible rfl); done)
                          (try simp only [Act.put, List.setIfInBounds_toArray, List.set_cons_zero, List.set_cons_succ])
                          refine wpAnyH_ready (rs := [26]) (by kernel_rfl) (by simp) ?_
                          refine AllReadyH.cons (o := { dst := none, op := Op.store 64 (Operand.tmp 13) (Operand.tmp 139), type := 0, pos := "law.go:60", after := #[{ on := 25, ground := Ground.data }, { on := 24, ground := Ground.data }, { on := 2, ground := Ground.chain }, { on := 0, ground := Ground.phase }, { on := 1, ground := Ground.phase }, { on := 2, ground := Ground.phase }, { on := 3, ground := Ground.phase }, { on := 4, ground := Ground.phase }, { on := 5, ground := Ground.phase }, { on := 6, ground := Ground.phase }, { on := 7, ground := Ground.phase }, { on := 8, ground := Ground.phase }, { on := 9, ground := Ground.phase }, { on := 10, ground := Ground.phase }, { on := 11, ground := Ground.phase }, { on := 12, ground := Ground.phase }, { on := 13, ground := Ground.phase }, { on := 14, ground := Ground.phase }, { on := 15, ground := Ground.phase }, { on := 16, ground := Ground.phase }, { on := 17, ground := Ground.phase }, { on := 18, ground := Ground.phase }, { on := 19, ground := Ground.phase }, { on := 20, ground := Ground.phase }, { on := 21, ground := Ground.phase }, { on := 22, ground := Ground.phase }, { on := 23, ground := Ground.phase }, { on := 24, ground := Ground.phase }, { on := 25, ground := Ground.phase }], guard := none }) (by rfl) (fun K hK => ?_) (AllReadyH.nil)
                          go_simp
                          skip
                          go_wp2_with fail
                          refine hK.out _ _ (by first | exact ⟨⟨by go_simp, by go_simp, by go_simp⟩, ⟨by go_simp, by go_simp, by go_simp⟩, by go_simp, by go_simp, by go_simp⟩) (fun hHeld => ?_)
                          clear hK K
                          (try simp only [Act.put, List.setIfInBounds_toArray, List.set_cons_zero, List.set_cons_succ])
                          refine wpAnyH_done (by kernel_rfl) ?_ _
                        rotate_left 1
                      all_goals go_wp2_with fail
                      all_goals go_meet
                      all_goals rw [Htm.out]
                      all_goals exact ⟨_, rfl, by (try simp) <;> (try omega), BoxC.of6 (by go_simp) (by go_simp) (by go_simp) (by go_simp) (by go_simp) (by go_simp) (fun o => by go_simp), (by repeat' (first | with_reducible exact Below.refl _ _ | with_reducible assumption | with_reducible refine Below.alloc ?_ ?_ _ | with_reducible refine Below.setCell ?_ ?_ _ | with_reducible refine Below.drew ?_ | with_reducible refine below_drewN ?_ _ | with_reducible refine Below.trans ?_ (Below.mono (by with_reducible assumption) ?_) | omega | (simp <;> omega)))⟩
                    case rest =>
                      obtain ⟨E, rfl, hE, hXE, hBe⟩ := hcut
                      obtain ⟨we, hwe⟩ : ∃ we : World, we = wc := ⟨_, rfl⟩
                      subst hwe
                      have hsze := hBe.size
                      have hXD := hX.below hBe
                      have hDe : D < we.heap.size := by omega
                      have hED : E ≠ D := by omega
                      clear o0 o1 p2 p3 p4 p5 k0 k1 k2
                      cases hw : s.wr with
                      | true =>
                        rw [hw] at hXE
                        have hent := Hent.out
                        rw [hw, if_pos rfl] at hent
                        obtain ⟨e1, he1⟩ : ∃ e1 : En, e1 = ⟨ac, ⟨x.v, x.r % 9, 0⟩, nv, true⟩ := ⟨_, rfl⟩
                        have hst2 : Hid (entsTo s (j + 1) = (av % 8, es ++ [e1])) := hide (by rw [hst.out, hent, he1, Hac.out])
                        have hec : ec e1 = [.int .i64 ac, .int .i64 x.v, .int .u32 (x.r % 9), .int .u32 0, .int .i64 nv, .bool true] := by rw [he1]; rfl
                        have Hec := hide hec
                        obtain ⟨wf, hwf⟩ : ∃ wf : World, wf = we := ⟨_, rfl⟩
                        subst hwf
                        have hBf : Below wq.heap.size wq wf := hBe
                        have hXF := hXE
                        have hXG := hXD
                        clear hent he1 hec hBe hXE hXD
                        have hszf := hBf.size
                        have u0 := hXF.at (j := 0) rfl
                        have u1 := hXF.at (j := 1) rfl
                        have u2 := hXF.at (j := 2) rfl
                        have u3 := hXF.at (j := 3) rfl
                        have u4 := hXF.at (j := 4) rfl
                        have u5 := hXF.at (j := 5) rfl
                        have v3 := hXG.at (j := 3) rfl
                        have vz : ∀ o, wf.frozen? ⟨D, o, none⟩ = false := hXG.2.1
                        have p5f : wf.cell? ⟨wr.heap.size, 5, none⟩ = some (.bool s.wr) := (hBf.cell (p := ⟨wr.heap.size, 5, none⟩) hzq).trans ((hBq.cell (p := ⟨wr.heap.size, 5, none⟩) hDr).trans n5)
                        rw [hw] at p5f
                        have hDf : D < wf.heap.size := by omega
                        have hEf : E < wf.heap.size := hXF.2.2
                        go_wp2_with (first
                          | (at_builtin; refine wpList_append_rd rfl _ _ 55 rfl wd.heap.size 64 i0 _ 6 40 Tryz.underlying55 hi iz0 iz1 iz2 rfl (by decide) (.slice A' es.length capv) es.length (es.flatMap ec) rfl (own_below Hown.out (by repeat' (first | with_reducible exact Below.refl _ _ | with_reducible assumption | with_reducible refine Below.alloc ?_ ?_ _ | with_reducible refine Below.setCell ?_ ?_ _ | with_reducible refine Below.drew ?_ | with_reducible refine below_drewN ?_ _ | with_reducible refine Below.trans ?_ (Below.mono (by with_reducible assumption) ?_) | omega | (simp <;> omega)))) (some ⟨wf.heap.size, 0, none⟩) 1 1 (ec e1) rfl _ (by rw [Hec.out]; exact rd_six (by go_simp) (by go_simp) (by go_simp) (by go_simp) (by go_simp) (by go_simp)) (ec_ones e1) (by unfold maxLen; omega) (by omega) (by simp; omega) wd.heap.size _ (Below.refl _ _) (Nat.le_refl _) ?_; intro v' w6 hown6 hb6 hsz6; obtain ⟨A2, cap2, rfl, hcp2, hbl2⟩ := own_slice hown6; have X6 : BoxC D [.int .i64 (slWho k), .int .i64 (s.sq % 9 + 1), .int .i64 (s.st % 4), .slice A' es.length capv] w6 := (hXG.below (by first | exact (by repeat' (first | with_reducible exact Below.refl _ _ | with_reducible assumption | with_reducible refine Below.alloc ?_ ?_ _ | with_reducible refine Below.setCell ?_ ?_ _ | with_reducible refine Below.drew ?_ | with_reducible refine below_drewN ?_ _ | with_reducible refine Below.trans ?_ (Below.mono (by with_reducible assumption) ?_) | omega | (simp <;> omega))))).under hb6 (by omega); have d36 := X6.at (j := 3) rfl; have dz6 : ∀ o, w6.frozen? ⟨D, o, none⟩ = false := X6.2.1))
                        have hBx : Below D wd w6 := by
                          have h1 : Below D wd wf := hBq.trans (hBf.mono (by omega))
                          have h2 : Below wd.heap.size wf w6 := (((Below.refl _ _).alloc (by omega) _).trans hb6)
                          exact h1.trans (h2.mono (by omega))
                        refine ⟨by rw [HI2.out]; exact ⟨rfl, rfl, j + 1, es.length + 1, .slice A2 (es.length + 1) cap2, rfl, rfl, rfl, rfl, rfl, rfl, rfl, rfl, by rw [hst2.out]; rfl, rfl, rfl, rfl, rfl, rfl, congrArg some (by go_num), by omega, by rw [hst2.out]; simp, X6.store (o := 3) (by simp) _, by rw [hst2.out, List.flatMap_append]; have h := ownsRow_setCell_below hown6 (a := ⟨D, 3, none⟩) (by simp; omega) (.slice A2 (es.length + 1) cap2); simpa using h, (by repeat' (first | with_reducible exact Below.refl _ _ | with_reducible assumption | with_reducible refine Below.alloc ?_ ?_ _ | with_reducible refine Below.setCell ?_ ?_ _ | with_reducible refine Below.drew ?_ | with_reducible refine below_drewN ?_ _ | with_reducible refine Below.trans ?_ (Below.mono (by with_reducible assumption) ?_) | omega | (simp <;> omega))), by (try simp); (try simp at hsz6); omega⟩, by simp [intOf]; omega⟩
                      | false =>
                        rw [hw] at hXE
                        have hent := Hent.out
                        rw [hw, if_neg (by simp)] at hent
                        obtain ⟨e1, he1⟩ : ∃ e1 : En, e1 = ⟨ac, ⟨x.v, x.r % 9, 0⟩, x.v, false⟩ := ⟨_, rfl⟩
                        have hst2 : Hid (entsTo s (j + 1) = (av % 8, es ++ [e1])) := hide (by rw [hst.out, hent, he1, Hac.out])
                        have hec : ec e1 = [.int .i64 ac, .int .i64 x.v, .int .u32 (x.r % 9), .int .u32 0, .int .i64 x.v, .bool false] := by rw [he1]; rfl
                        have Hec := hide hec
                        have z1 := hXE.at (j := 1) rfl
                        have z4 := hXE.at (j := 4) rfl
                        have z5 := hXE.at (j := 5) rfl
                        have zz : ∀ o, we.frozen? ⟨E, o, none⟩ = false := hXE.2.1
                        have p5e : we.cell? ⟨wr.heap.size, 5, none⟩ = some (.bool s.wr) := (hBe.cell (p := ⟨wr.heap.size, 5, none⟩) hzq).trans ((hBq.cell (p := ⟨wr.heap.size, 5, none⟩) hDr).trans n5)
                        rw [hw] at p5e
                        go_upto_region 19 with fail
                        obtain ⟨wf, hwf⟩ : ∃ wf : World, wf = we.setCell ⟨E, 4, none⟩ (.int .i64 x.v) := ⟨_, rfl⟩
                        rw [← hwf]
                        have hBf : Below wq.heap.size wq wf := by rw [hwf]; exact (by repeat' (first | with_reducible exact Below.refl _ _ | with_reducible assumption | with_reducible refine Below.alloc ?_ ?_ _ | with_reducible refine Below.setCell ?_ ?_ _ | with_reducible refine Below.drew ?_ | with_reducible refine below_drewN ?_ _ | with_reducible refine Below.trans ?_ (Below.mono (by with_reducible assumption) ?_) | omega | (simp <;> omega)))
                        have hXF : BoxC E [.int .i64 ac, .int .i64 x.v, .int .u32 (x.r % 9), .int .u32 0, .int .i64 x.v, .bool false] wf := by rw [hwf]; exact hXE.store (o := 4) (by simp) _
                        have hXG : BoxC D [.int .i64 (slWho k), .int .i64 (s.sq % 9 + 1), .int .i64 (s.st % 4), .slice A' es.length capv] wf := by rw [hwf]; exact hXD.far hED _
                        clear hent he1 hec hBe hXE hXD z1 z4 z5 zz p5e hwf
                        have hszf := hBf.size
                        have u0 := hXF.at (j := 0) rfl
                        have u1 := hXF.at (j := 1) rfl
                        have u2 := hXF.at (j := 2) rfl
                        have u3 := hXF.at (j := 3) rfl
                        have u4 := hXF.at (j := 4) rfl
                        have u5 := hXF.at (j := 5) rfl
                        have v3 := hXG.at (j := 3) rfl
                        have vz : ∀ o, wf.frozen? ⟨D, o, none⟩ = false := hXG.2.1
                        have p5f : wf.cell? ⟨wr.heap.size, 5, none⟩ = some (.bool s.wr) := (hBf.cell (p := ⟨wr.heap.size, 5, none⟩) hzq).trans ((hBq.cell (p := ⟨wr.heap.size, 5, none⟩) hDr).trans n5)
                        rw [hw] at p5f
                        have hDf : D < wf.heap.size := by omega
                        have hEf : E < wf.heap.size := hXF.2.2
                        go_wp2_with (first
                          | (at_builtin; refine wpList_append_rd rfl _ _ 55 rfl wd.heap.size 64 i0 _ 6 40 Tryz.underlying55 hi iz0 iz1 iz2 rfl (by decide) (.slice A' es.length capv) es.length (es.flatMap ec) rfl (own_below Hown.out (by repeat' (first | with_reducible exact Below.refl _ _ | with_reducible assumption | with_reducible refine Below.alloc ?_ ?_ _ | with_reducible refine Below.setCell ?_ ?_ _ | with_reducible refine Below.drew ?_ | with_reducible refine below_drewN ?_ _ | with_reducible refine Below.trans ?_ (Below.mono (by with_reducible assumption) ?_) | omega | (simp <;> omega)))) (some ⟨wf.heap.size, 0, none⟩) 1 1 (ec e1) rfl _ (by rw [Hec.out]; exact rd_six (by go_simp) (by go_simp) (by go_simp) (by go_simp) (by go_simp) (by go_simp)) (ec_ones e1) (by unfold maxLen; omega) (by omega) (by simp; omega) wd.heap.size _ (Below.refl _ _) (Nat.le_refl _) ?_; intro v' w6 hown6 hb6 hsz6; obtain ⟨A2, cap2, rfl, hcp2, hbl2⟩ := own_slice hown6; have X6 : BoxC D [.int .i64 (slWho k), .int .i64 (s.sq % 9 + 1), .int .i64 (s.st % 4), .slice A' es.length capv] w6 := (hXG.below (by first | exact (by repeat' (first | with_reducible exact Below.refl _ _ | with_reducible assumption | with_reducible refine Below.alloc ?_ ?_ _ | with_reducible refine Below.setCell ?_ ?_ _ | with_reducible refine Below.drew ?_ | with_reducible refine below_drewN ?_ _ | with_reducible refine Below.trans ?_ (Below.mono (by with_reducible assumption) ?_) | omega | (simp <;> omega))))).under hb6 (by omega); have d36 := X6.at (j := 3) rfl; have dz6 : ∀ o, w6.frozen? ⟨D, o, none⟩ = false := X6.2.1))
                        have hBx : Below D wd w6 := by
                          have h1 : Below D wd wf := hBq.trans (hBf.mono (by omega))
                          have h2 : Below wd.heap.size wf w6 := (((Below.refl _ _).alloc (by omega) _).trans hb6)
                          exact h1.trans (h2.mono (by omega))
                        refine ⟨by rw [HI2.out]; exact ⟨rfl, rfl, j + 1, es.length + 1, .slice A2 (es.length + 1) cap2, rfl, rfl, rfl, rfl, rfl, rfl, rfl, rfl, by rw [hst2.out]; rfl, rfl, rfl, rfl, rfl, rfl, congrArg some (by go_num), by omega, by rw [hst2.out]; simp, X6.store (o := 3) (by simp) _, by rw [hst2.out, List.flatMap_append]; have h := ownsRow_setCell_below hown6 (a := ⟨D, 3, none⟩) (by simp; omega) (.slice A2 (es.length + 1) cap2); simpa using h, (by repeat' (first | with_reducible exact Below.refl _ _ | with_reducible assumption | with_reducible refine Below.alloc ?_ ?_ _ | with_reducible refine Below.setCell ?_ ?_ _ | with_reducible refine Below.drew ?_ | with_reducible refine below_drewN ?_ _ | with_reducible refine Below.trans ?_ (Below.mono (by with_reducible assumption) ?_) | omega | (simp <;> omega))), by (try simp); (try simp at hsz6); omega⟩, by simp [intOf]; omega⟩
                  · skip
                    have Hst2 : Hid (entsTo s (j + 1) = (ls, es)) := hide (by rw [Hstep.out]; exact (by rw [if_neg (by omega)]))
                    go_wp2_with fail
                    refine ⟨by rw [HI2.out]; exact ⟨rfl, rfl, j + 1, es.length, _, rfl, rfl, rfl, rfl, rfl, rfl, rfl, rfl, by rw [Hst2.out]; rfl, rfl, rfl, rfl, rfl, rfl, congrArg some (by go_num), by omega, by rw [Hst2.out], hX, by rw [Hst2.out]; exact Hown.out, hBq, hsq⟩, by simp [intOf]; omega⟩
                · skip
                  have Hst2 : Hid (entsTo s (j + 1) = (ls, es)) := hide (by rw [Hstep.out]; exact (by rw [if_neg (by omega)]))
                  go_wp2_with fail
                  refine ⟨by rw [HI2.out]; exact ⟨rfl, rfl, j + 1, es.length, _, rfl, rfl, rfl, rfl, rfl, rfl, rfl, rfl, by rw [Hst2.out]; rfl, rfl, rfl, rfl, rfl, rfl, congrArg some (by go_num), by omega, by rw [Hst2.out], hX, by rw [Hst2.out]; exact Hown.out, hBq, hsq⟩, by simp [intOf]; omega⟩
              · skip
                have Hst2 : Hid (entsTo s (j + 1) = (ls, es)) := hide (by rw [Hstep.out]; exact (by rw [if_neg (by omega)]))
                go_wp2_with fail
                refine ⟨by rw [HI2.out]; exact ⟨rfl, rfl, j + 1, es.length, _, rfl, rfl, rfl, rfl, rfl, rfl, rfl, rfl, by rw [Hst2.out]; rfl, rfl, rfl, rfl, rfl, rfl, congrArg some (by go_num), by omega, by rw [Hst2.out], hX, by rw [Hst2.out]; exact Hown.out, hBq, hsq⟩, by simp [intOf]; omega⟩
            · skip
              have Hst2 : Hid (entsTo s (j + 1) = (ls, es)) := hide (by rw [Hstep.out]; exact (by rw [if_neg (by omega)]))
              go_wp2_with fail
              refine ⟨by rw [HI2.out]; exact ⟨rfl, rfl, j + 1, es.length, _, rfl, rfl, rfl, rfl, rfl, rfl, rfl, rfl, by rw [Hst2.out]; rfl, rfl, rfl, rfl, rfl, rfl, congrArg some (by go_num), by omega, by rw [Hst2.out], hX, by rw [Hst2.out]; exact Hown.out, hBq, hsq⟩, by simp [intOf]; omega⟩
          · obtain rfl : j = s.at_.length := by omega
            obtain ⟨es, hes⟩ : ∃ es, es = (entsTo s s.at_.length).2 := ⟨_, rfl⟩
            rw [← hes] at hn' hown hg3 hg4 hg5
            subst hn'
            have Hrd := hide (own_rd hown)
            have hcm := own_cap hown
            have hwho : 0 ≤ slWho k ∧ slWho k ≤ 10 := by
              match k, hk5' with
              | 0, _ => exact ⟨by decide, by decide⟩
              | 1, _ => exact ⟨by decide, by decide⟩
              | 2, _ => exact ⟨by decide, by decide⟩
              | 3, _ => exact ⟨by decide, by decide⟩
              | 4, _ => exact ⟨by decide, by decide⟩
            obtain ⟨W0, hW0⟩ : ∃ x, x = slWho k := ⟨_, rfl⟩
            have hpl := fun W hs' => place_any 3 8 2 W0 W valid382 hs' (by omega) (by omega)
            have hso := slotsOut_succ sl (firstL 3 8 2) k
            unfold slStep at hso
            rw [Hz.out] at hso
            simp only [] at hso
            have hsO : slOut k s = decide (checkD 3 8 2 W0 (s.sq % 9 + 1) (s.st % 4) es = 0) := by unfold slOut; rw [← hW0, ← hes]
            have hsW : slWords s = dwordsL (s.sq % 9 + 1) (s.st % 4) es := by unfold slWords; rw [← hes]
            rw [hsO, hsW, ← hW0] at hso
            rw [← hW0] at hwho hX
            have d0 := hX.at (j := 0) rfl
            have d1 := hX.at (j := 1) rfl
            have d2 := hX.at (j := 2) rfl
            have d3 := hX.at (j := 3) rfl
            have hMq := HM4.out.below (B := D) hBq (by omega)
            obtain ⟨o, ho⟩ : ∃ o, o = slotsOut sl (firstL 3 8 2) k := ⟨_, rfl⟩
            have hol : o.length = 448 := by rw [ho, slotsOut_len, first382_len]
            rw [← ho] at hMq hso
            have HMq := hide hMq
            have hbq2 : But G w2.heap.size w2 wq := hB.of ((hB4.mono hsz).trans (hBq.mono (by omega)))
            have Hol := hide hol
            by_cases hE : checkD 3 8 2 W0 (s.sq % 9 + 1) (s.st % 4) es = 0
            · rw [hE] at hso
              simp only [decide_true, if_true] at hso
              have Hso := hide hso
              have hdw := fun W hs' hr' => dwords_good 3 8 2 W0 (s.sq % 9 + 1) (s.st % 4) A' es.length capv es W valid382 hs' (by omega) (by omega) hr' rfl (by omega) hcpv hcm hg5 hE
              have hpn : placeN 3 8 2 W0 ≠ 0 := checkD_place hE
              have hpm : (es.length : Int) ≤ placeN 3 8 2 W0 := checkD_most hE
              obtain ⟨p, hpp, hpq, -, -⟩ := place_in 3 8 2 W0 valid382 hpn
              rw [from382] at hpq
              rw [hpp] at hpl hso
              rw [Int.toNat_natCast] at hso
              obtain ⟨ws, hws⟩ : ∃ ws, ws = dwordsL (s.sq % 9 + 1) (s.st % 4) es := ⟨_, rfl⟩
              have hwl : ws.length = 2 + 3 * es.length := by rw [hws, dwordsL_len]
              simp only [← hws] at hdw hso
              obtain ⟨L, hL⟩ : ∃ L, L = 2 + 3 * es.length := ⟨_, rfl⟩
              rw [← hL] at hwl
              simp only [← hL] at hdw
              rw [hwl] at hso
              have hpL : p + L ≤ 448 := by omega
              have Hdw := hide hdw
              have Hpl := hide hpl
              have Hso := hide hso
              have Hbq2 := hide hbq2
              have Hwl := hide hwl
              have hL0 : L ≤ 1000 := by omega
              clear hso hdw hpl hsO hsW hW0 hes hown hg5 ho hol hMq hbq2 hX hE hpn hpm hws hwl hL hpq hpp
              go_wp2_with (first
                | (go_at_call 18; refine (Hdw.out _ (HSq.out.below (by repeat' (first | with_reducible exact Below.refl _ _ | with_reducible assumption | with_reducible refine Below.alloc ?_ ?_ _ | with_reducible refine Below.setCell ?_ ?_ _ | with_reducible refine Below.drew ?_ | with_reducible refine below_drewN ?_ _ | with_reducible refine Below.trans ?_ (Below.mono (by with_reducible assumption) ?_) | omega | (simp <;> omega)))) (Hrd.out.below (by repeat' (first | with_reducible exact Below.refl _ _ | with_reducible assumption | with_reducible refine Below.alloc ?_ ?_ _ | with_reducible refine Below.setCell ?_ ?_ _ | with_reducible refine Below.drew ?_ | with_reducible refine below_drewN ?_ _ | with_reducible refine Below.trans ?_ (Below.mono (by with_reducible assumption) ?_) | omega | (simp <;> omega))))).mono ?_; rintro e w5 ⟨AW, cpw, rfl, hRW, hbW, hb5⟩; obtain ⟨hcc5, hff5⟩ := bcell hb5; have hs5 := hb5.size; (try simp at hs5); have hz5 : wr.heap.size < w5.heap.size := (by omega); have hy5 : w1.heap.size < w5.heap.size := (by omega); have hD5 : D < w5.heap.size := (by omega))
                | (go_at_call 19; refine (Hpl.out _ (HSq.out.below (by repeat' (first | with_reducible exact Below.refl _ _ | with_reducible assumption | with_reducible refine Below.alloc ?_ ?_ _ | with_reducible refine Below.setCell ?_ ?_ _ | with_reducible refine Below.drew ?_ | with_reducible refine below_drewN ?_ _ | with_reducible refine Below.trans ?_ (Below.mono (by with_reducible assumption) ?_) | omega | (simp <;> omega))))).mono ?_; rintro e w6 ⟨rfl, hb6⟩; obtain ⟨hcc6, hff6⟩ := bcell hb6; have hs6 := hb6.size; (try simp at hs6)))
              have HR6 := hide (hRW.below hb6)
              have HM6 := hide (HMq.out.grow (show Below wq.heap.size wq w6 by exact (by repeat' (first | with_reducible exact Below.refl _ _ | with_reducible assumption | with_reducible refine Below.alloc ?_ ?_ _ | with_reducible refine Below.setCell ?_ ?_ _ | with_reducible refine Below.drew ?_ | with_reducible refine below_drewN ?_ _ | with_reducible refine Below.trans ?_ (Below.mono (by with_reducible assumption) ?_) | omega | (simp <;> omega)))))
              have HB6 := hide (Hbq2.out.of (show Below w2.heap.size wq w6 by exact (by repeat' (first | with_reducible exact Below.refl _ _ | with_reducible assumption | with_reducible refine Below.alloc ?_ ?_ _ | with_reducible refine Below.setCell ?_ ?_ _ | with_reducible refine Below.drew ?_ | with_reducible refine below_drewN ?_ _ | with_reducible refine Below.trans ?_ (Below.mono (by with_reducible assumption) ?_) | omega | (simp <;> omega)))))
              have HbW := hide hbW
              have hs56 : wq.heap.size ≤ w5.heap.size := by omega
              have hG6 : G < w6.heap.size := by have := HM6.out.2.2; exact this
              clear hRW hbW hcc5 hff5 hcc6 hff6
              obtain ⟨I3, hxI3⟩ : ∃ I : Act → World → Prop, I = (fun a wz => a.tmps.size = 282 ∧ a.defers = [] ∧ (∃ q : Nat, (a.tmps.toList[1]? = some (.pointer (some ⟨w.heap.size, 0, none⟩))) ∧ (a.tmps.toList[2]? = some (.slice none 0 0)) ∧ (a.tmps.toList[3]? = some (.bool false)) ∧ (a.tmps.toList[4]? = some (.pointer (some ⟨w1.heap.size, 0, none⟩))) ∧ (a.tmps.toList[5]? = some (.slice (some ⟨G, 0, none⟩) 448 448)) ∧ (a.tmps.toList[16]? = some (.int .i64 p)) ∧ (a.tmps.toList[61]? = some (.slice (some ⟨b0, off, none⟩) sl.length cs)) ∧ (a.tmps.toList[62]? = some (.int .i64 sl.length)) ∧ (a.tmps.toList[63]? = some (.int .i64 k)) ∧ (a.tmps.toList[173]? = some (.slice AW L cpw)) ∧ (a.tmps.toList[174]? = some (.int .i64 L)) ∧ (a.tmps.toList[175]? = some (.int .i64 q)) ∧ q ≤ L ∧ Mem G (putAll p ws o q) wz ∧ But G w6.heap.size w6 wz)) := ⟨_, rfl⟩
              have HI3 := hide hxI3
              clear hxI3
              refine wp_loop I3 (fun a wz => L - (intOf (a.tmps.getD 175 undef)).toNat) ?_ ?_
              · rw [HI3.out]
                exact ⟨rfl, rfl, 0, rfl, rfl, rfl, rfl, rfl, rfl, rfl, rfl, rfl, rfl, rfl, rfl, by omega, HM6.out, But.refl _ _ _⟩
              · skip
                intro a wz hI
                rw [HI3.out] at hI
                obtain ⟨hsz0, hdf0, hI⟩ := hI
                revert hI
                revert hdf0
                revert hsz0
                revert a
                refine elim282 ?_
                intro fr0 fr1 fr2 fr3 fr4 fr5 fr6 fr7 fr8 fr9 fr10 fr11 fr12 fr13 fr14 fr15 fr16 fr17 fr18 fr19 fr20 fr21 fr22 fr23 fr24 fr25 fr26 fr27 fr28 fr29 fr30 fr31 fr32 fr33 fr34 fr35 fr36 fr37 fr38 fr39 fr40 fr41 fr42 fr43 fr44 fr45 fr46 fr47 fr48 fr49 fr50 fr51 fr52 fr53 fr54 fr55 fr56 fr57 fr58 fr59 fr60 fr61 fr62 fr63 fr64 fr65 fr66 fr67 fr68 fr69 fr70 fr71 fr72 fr73 fr74 fr75 fr76 fr77 fr78 fr79 fr80 fr81 fr82 fr83 fr84 fr85 fr86 fr87 fr88 fr89 fr90 fr91 fr92 fr93 fr94 fr95 fr96 fr97 fr98 fr99 fr100 fr101 fr102 fr103 fr104 fr105 fr106 fr107 fr108 fr109 fr110 fr111 fr112 fr113 fr114 fr115 fr116 fr117 fr118 fr119 fr120 fr121 fr122 fr123 fr124 fr125 fr126 fr127 fr128 fr129 fr130 fr131 fr132 fr133 fr134 fr135 fr136 fr137 fr138 fr139 fr140 fr141 fr142 fr143 fr144 fr145 fr146 fr147 fr148 fr149 fr150 fr151 fr152 fr153 fr154 fr155 fr156 fr157 fr158 fr159 fr160 fr161 fr162 fr163 fr164 fr165 fr166 fr167 fr168 fr169 fr170 fr171 fr172 fr173 fr174 fr175 fr176 fr177 fr178 fr179 fr180 fr181 fr182 fr183 fr184 fr185 fr186 fr187 fr188 fr189 fr190 fr191 fr192 fr193 fr194 fr195 fr196 fr197 fr198 fr199 fr200 fr201 fr202 fr203 fr204 fr205 fr206 fr207 fr208 fr209 fr210 fr211 fr212 fr213 fr214 fr215 fr216 fr217 fr218 fr219 fr220 fr221 fr222 fr223 fr224 fr225 fr226 fr227 fr228 fr229 fr230 fr231 fr232 fr233 fr234 fr235 fr236 fr237 fr238 fr239 fr240 fr241 fr242 fr243 fr244 fr245 fr246 fr247 fr248 fr249 fr250 fr251 fr252 fr253 fr254 fr255 fr256 fr257 fr258 fr259 fr260 fr261 fr262 fr263 fr264 fr265 fr266 fr267 fr268 fr269 fr270 fr271 fr272 fr273 fr274 fr275 fr276 fr277 fr278 fr279 fr280 fr281
                intro hI
                obtain ⟨q, g1, g2, g3, g4, g5, g16, g61, g62, g63, g173, g174, g175, hq, hMz, hBz⟩ := hI
                have e1 := Option.some.inj g1; subst e1
                have e2 := Option.some.inj g2; subst e2
                have e3 := Option.some.inj g3; subst e3
                have e4 := Option.some.inj g4; subst e4
                have e5 := Option.some.inj g5; subst e5
                have e16 := Option.some.inj g16; subst e16
                have e61 := Option.some.inj g61; subst e61
                have e62 := Option.some.inj g62; subst e62
                have e63 := Option.some.inj g63; subst e63
                have e173 := Option.some.inj g173; subst e173
                have e174 := Option.some.inj g174; subst e174
                have e175 := Option.some.inj g175; subst e175
                clear g1 g2 g3 g4 g5 g16 g61 g62 g63 g173 g174 g175
                have hsz6 := hBz.size
                by_cases hlt3 : q < L
                · obtain ⟨y, hy⟩ : ∃ y, ws[q]? = some y := ⟨_, List.getElem?_eq_getElem (by rw [Hwl.out]; exact hlt3)⟩
                  obtain ⟨bw, ow, rfl, hbw, hcw⟩ := HR6.out.elem w3c_len hlt3 hy
                  have hbwG : bw ≠ G := by have := HbW.out bw ow rfl; have := HMq.out.2.2; omega
                  have hbwl : bw < w6.heap.size := by omega
                  have hpa := putAll_succ p ws o q
                  rw [List.getD_eq_getElem?_getD, hy, Option.getD_some] at hpa
                  obtain ⟨o2, ho2⟩ : ∃ o2, o2 = putAll p ws o q := ⟨_, rfl⟩
                  have hol2 : o2.length = 448 := by rw [ho2, putAll_len, Hol.out]
                  rw [← ho2] at hpa hMz
                  have t0 : wz.cell? ⟨bw, ow + q * 3, none⟩ = some (.int .i64 y.v) := (hBz.cell (p := ⟨bw, ow + q * 3, none⟩) hbwl hbwG).trans (hcw 0 _ rfl)
                  have t1 : wz.cell? ⟨bw, ow + q * 3 + 1, none⟩ = some (.int .u32 y.r) := (hBz.cell (p := ⟨bw, ow + q * 3 + 1, none⟩) hbwl hbwG).trans (hcw 1 _ rfl)
                  have t2 : wz.cell? ⟨bw, ow + q * 3 + 2, none⟩ = some (.int .u32 y.f) := (hBz.cell (p := ⟨bw, ow + q * 3 + 2, none⟩) hbwl hbwG).trans (hcw 2 _ rfl)
                  obtain ⟨z, hzz⟩ : ∃ z, o2[p + q]? = some z := ⟨_, List.getElem?_eq_getElem (by omega)⟩
                  have sf := hMz.2.1
                  have s0 := hMz.w0 hzz
                  have s1 := hMz.w1 hzz
                  have s2 := hMz.w2 hzz
                  have HMz := hide hMz
                  have Hpa := hide hpa
                  have Hol2 := hide hol2
                  have hq0 : (0 : Int) ≤ (q : Int) := by omega
                  have hq1 : (q : Int) < (L : Int) := by omega
                  have hq2 : (p : Int) + (q : Int) < 448 := by omega
                  have hq3 : p + q < 448 := by omega
                  have hGz : G < wz.heap.size := by omega
                  have hbz : bw < wz.heap.size := by omega
                  have hGn : ¬ G = wz.heap.size := by omega
                  have hGn2 : ¬ wz.heap.size = G := by omega
                  clear hcw hy ho2 hzz hMz hpa hol2
                  go_wp2_with fail
                  exact ⟨by rw [HI3.out]; exact ⟨rfl, rfl, q + 1, rfl, rfl, rfl, rfl, rfl, rfl, rfl, rfl, rfl, rfl, rfl, congrArg some (by go_num), by omega, by rw [Hpa.out]; exact (HMz.out.set3 (by rw [Hol2.out]; omega) y).grow (by repeat' (first | with_reducible exact Below.refl _ _ | with_reducible assumption | with_reducible refine Below.alloc ?_ ?_ _ | with_reducible refine Below.setCell ?_ ?_ _ | with_reducible refine Below.drew ?_ | with_reducible refine below_drewN ?_ _ | with_reducible refine Below.trans ?_ (Below.mono (by with_reducible assumption) ?_) | omega | (simp <;> omega))), (by repeat' (first | with_reducible exact But.refl _ _ _ | with_reducible assumption | with_reducible refine But.alloc ?_ ?_ _ | with_reducible refine But.setCell ?_ ?_ _ | with_reducible refine But.drew ?_ | with_reducible refine But.drewN ?_ _ | with_reducible refine But.of ?_ (Below.mono (by with_reducible assumption) ?_) | (left; rfl) | omega | (right; simp <;> omega) | (simp <;> omega)))⟩, by simp [intOf]; omega⟩
                · obtain rfl : q = L := by omega
                  have Hso2 := Hso
                  go_wp2_with fail
                  exact ⟨by rw [HI1.out]; exact ⟨rfl, rfl, k + 1, rfl, rfl, rfl, rfl, rfl, rfl, rfl, congrArg some (by go_num), by omega, by rw [Hso2.out]; exact hMz, HB6.out.trans (hBz.mono HB6.out.size)⟩, by simp [intOf]; omega⟩
            · rw [decide_eq_false hE, if_neg (by simp)] at hso
              have Hso := hide hso
              have hdw := fun W hs' hr' => dwords_bad 3 8 2 W0 (s.sq % 9 + 1) (s.st % 4) A' es.length capv es W valid382 hs' (by omega) (by omega) hr' rfl (by omega) hcpv hcm hg5 hE
              have Hdw := hide hdw
              have Hpl := hide hpl
              obtain ⟨EE, hEE⟩ : ∃ x, x = checkD 3 8 2 W0 (s.sq % 9 + 1) (s.st % 4) es := ⟨_, rfl⟩
              rw [← hEE] at Hdw hE
              have hzb : (EE != 0) = true := by simp [hE]
              have Hbq2 := hide hbq2
              clear hso hdw hpl hEE hsO hsW hW0 hes hown hg5 ho hol hMq hbq2 hX
              go_wp2_with (first
                | (go_at_call 18; refine (Hdw.out _ (HSq.out.below (by repeat' (first | with_reducible exact Below.refl _ _ | with_reducible assumption | with_reducible refine Below.alloc ?_ ?_ _ | with_reducible refine Below.setCell ?_ ?_ _ | with_reducible refine Below.drew ?_ | with_reducible refine below_drewN ?_ _ | with_reducible refine Below.trans ?_ (Below.mono (by with_reducible assumption) ?_) | omega | (simp <;> omega)))) (Hrd.out.below (by repeat' (first | with_reducible exact Below.refl _ _ | with_reducible assumption | with_reducible refine Below.alloc ?_ ?_ _ | with_reducible refine Below.setCell ?_ ?_ _ | with_reducible refine Below.drew ?_ | with_reducible refine below_drewN ?_ _ | with_reducible refine Below.trans ?_ (Below.mono (by with_reducible assumption) ?_) | omega | (simp <;> omega))))).mono ?_; rintro e w5 ⟨rfl, hb5⟩; obtain ⟨hcc5, hff5⟩ := bcell hb5; have hs5 := hb5.size; (try simp at hs5); have hz5 : wr.heap.size < w5.heap.size := (by omega); have hy5 : w1.heap.size < w5.heap.size := (by omega); have hD5 : D < w5.heap.size := (by omega))
                | (go_at_call 19; refine (Hpl.out _ (HSq.out.below (by repeat' (first | with_reducible exact Below.refl _ _ | with_reducible assumption | with_reducible refine Below.alloc ?_ ?_ _ | with_reducible refine Below.setCell ?_ ?_ _ | with_reducible refine Below.drew ?_ | with_reducible refine below_drewN ?_ _ | with_reducible refine Below.trans ?_ (Below.mono (by with_reducible assumption) ?_) | omega | (simp <;> omega))))).mono ?_; rintro e w6 ⟨rfl, hb6⟩; obtain ⟨hcc6, hff6⟩ := bcell hb6; have hs6 := hb6.size; (try simp at hs6)))
              exact ⟨by rw [HI1.out]; exact ⟨rfl, rfl, k + 1, rfl, rfl, rfl, rfl, rfl, rfl, rfl, congrArg some (by go_num), by omega, by rw [Hso.out]; exact HMq.out.grow (by repeat' (first | with_reducible exact Below.refl _ _ | with_reducible assumption | with_reducible refine Below.alloc ?_ ?_ _ | with_reducible refine Below.setCell ?_ ?_ _ | with_reducible refine Below.drew ?_ | with_reducible refine below_drewN ?_ _ | with_reducible refine Below.trans ?_ (Below.mono (by with_reducible assumption) ?_) | omega | (simp <;> omega))), Hbq2.out.of (by repeat' (first | with_reducible exact Below.refl _ _ | with_reducible assumption | with_reducible refine Below.alloc ?_ ?_ _ | with_reducible refine Below.setCell ?_ ?_ _ | with_reducible refine Below.drew ?_ | with_reducible refine below_drewN ?_ _ | with_reducible refine Below.trans ?_ (Below.mono (by with_reducible assumption) ?_) | omega | (simp <;> omega)))⟩, by simp [intOf]; omega⟩
    · obtain rfl : k = sl.length := by omega
      obtain ⟨O1w, hO1w⟩ : ∃ o, o = slotsOut sl (firstL 3 8 2) sl.length := ⟨_, rfl⟩
      have hO1l : O1w.length = 448 := by rw [hO1w, slotsOut_len, first382_len]
      have HO1w := hide hO1w
      have HO1l := hide hO1l
      have HM4 : Hid (Mem G O1w wr) := by rw [hO1w]; exact HM
      have HB4 := hide hB
      obtain ⟨wo, hwo⟩ : ∃ wo : World, wo = wr := ⟨_, rfl⟩
      subst hwo
      clear hO1w hO1l HM hlt K1
      go_wp2_with fail
      obtain ⟨I4, hxI4⟩ : ∃ I : Act → World → Prop, I = (fun a wr => a.tmps.size = 282 ∧ a.defers = [] ∧ (∃ k : Nat, (a.tmps.toList[1]? = some (.pointer (some ⟨w.heap.size, 0, none⟩))) ∧ (a.tmps.toList[2]? = some (.slice none 0 0)) ∧ (a.tmps.toList[3]? = some (.bool false)) ∧ (a.tmps.toList[4]? = some (.pointer (some ⟨w1.heap.size, 0, none⟩))) ∧ (a.tmps.toList[5]? = some (.slice (some ⟨G, 0, none⟩) 448 448)) ∧ (a.tmps.toList[189]? = some (.slice Ac ce.length cc)) ∧ (a.tmps.toList[190]? = some (.int .i64 ce.length)) ∧ (a.tmps.toList[191]? = some (.int .i64 k)) ∧ k ≤ ce.length ∧ Mem G (cesOut ce O1w k) wr ∧ But G w2.heap.size w2 wr)) := ⟨_, rfl⟩
      have HI4 := hide hxI4
      clear hxI4
      refine wp_loop I4 (fun a wr => ce.length - (intOf (a.tmps.getD 191 undef)).toNat) ?_ ?_
      · rw [HI4.out]
        exact ⟨rfl, rfl, 0, rfl, rfl, rfl, rfl, rfl, rfl, rfl, rfl, by omega, HM4.out, HB4.out⟩
      · skip
        clear f0 f1 f2 y0 y1 y2 y3 y4 hBw HSr hzr hyr hsz hB HM4 HB4 hk
        intro a wr hI
        rw [HI4.out] at hI
        obtain ⟨hsz0, hdf0, hI⟩ := hI
        revert hI
        revert hdf0
        revert hsz0
        revert a
        refine elim282 ?_
        intro fr0 fr1 fr2 fr3 fr4 fr5 fr6 fr7 fr8 fr9 fr10 fr11 fr12 fr13 fr14 fr15 fr16 fr17 fr18 fr19 fr20 fr21 fr22 fr23 fr24 fr25 fr26 fr27 fr28 fr29 fr30 fr31 fr32 fr33 fr34 fr35 fr36 fr37 fr38 fr39 fr40 fr41 fr42 fr43 fr44 fr45 fr46 fr47 fr48 fr49 fr50 fr51 fr52 fr53 fr54 fr55 fr56 fr57 fr58 fr59 fr60 fr61 fr62 fr63 fr64 fr65 fr66 fr67 fr68 fr69 fr70 fr71 fr72 fr73 fr74 fr75 fr76 fr77 fr78 fr79 fr80 fr81 fr82 fr83 fr84 fr85 fr86 fr87 fr88 fr89 fr90 fr91 fr92 fr93 fr94 fr95 fr96 fr97 fr98 fr99 fr100 fr101 fr102 fr103 fr104 fr105 fr106 fr107 fr108 fr109 fr110 fr111 fr112 fr113 fr114 fr115 fr116 fr117 fr118 fr119 fr120 fr121 fr122 fr123 fr124 fr125 fr126 fr127 fr128 fr129 fr130 fr131 fr132 fr133 fr134 fr135 fr136 fr137 fr138 fr139 fr140 fr141 fr142 fr143 fr144 fr145 fr146 fr147 fr148 fr149 fr150 fr151 fr152 fr153 fr154 fr155 fr156 fr157 fr158 fr159 fr160 fr161 fr162 fr163 fr164 fr165 fr166 fr167 fr168 fr169 fr170 fr171 fr172 fr173 fr174 fr175 fr176 fr177 fr178 fr179 fr180 fr181 fr182 fr183 fr184 fr185 fr186 fr187 fr188 fr189 fr190 fr191 fr192 fr193 fr194 fr195 fr196 fr197 fr198 fr199 fr200 fr201 fr202 fr203 fr204 fr205 fr206 fr207 fr208 fr209 fr210 fr211 fr212 fr213 fr214 fr215 fr216 fr217 fr218 fr219 fr220 fr221 fr222 fr223 fr224 fr225 fr226 fr227 fr228 fr229 fr230 fr231 fr232 fr233 fr234 fr235 fr236 fr237 fr238 fr239 fr240 fr241 fr242 fr243 fr244 fr245 fr246 fr247 fr248 fr249 fr250 fr251 fr252 fr253 fr254 fr255 fr256 fr257 fr258 fr259 fr260 fr261 fr262 fr263 fr264 fr265 fr266 fr267 fr268 fr269 fr270 fr271 fr272 fr273 fr274 fr275 fr276 fr277 fr278 fr279 fr280 fr281
        intro hI
        obtain ⟨k, g1, g2, g3, g4, g5, g189, g190, g191, hk, hM, hB⟩ := hI
        have e1 := Option.some.inj g1; subst e1
        have e2 := Option.some.inj g2; subst e2
        have e3 := Option.some.inj g3; subst e3
        have e4 := Option.some.inj g4; subst e4
        have e5 := Option.some.inj g5; subst e5
        have e189 := Option.some.inj g189; subst e189
        have e190 := Option.some.inj g190; subst e190
        have e191 := Option.some.inj g191; subst e191
        clear g1 g2 g3 g4 g5 g189 g190 g191
        have hsz := hB.size
        have hwc : ∀ b o, b < w2.heap.size → b ≠ G → wr.cell? ⟨b, o, none⟩ = w2.cell? ⟨b, o, none⟩ := fun b o h1 h2 => hB.cell (p := ⟨b, o, none⟩) h1 h2
        have f0 := (hwc _ 0 hy2 (by omega)).trans e0
        have f1 := (hwc _ 1 hy2 (by omega)).trans e1
        have f2 := (hwc _ 2 hy2 (by omega)).trans e2
        have y1 := (hwc _ 1 hz2 (by omega)).trans x1
        have y2 := (hwc _ 2 hz2 (by omega)).trans x2
        have y3 := (hwc _ 3 hz2 (by omega)).trans x3
        have y4 := (hwc _ 4 hz2 (by omega)).trans x4
        have hBw : Below w.heap.size w2 wr := hB.below (by omega) (by omega)
        have HSr := hide (HS2.out.below' (by omega) hBw)
        have HM := hide hM
        have hzr : w.heap.size < wr.heap.size := by omega
        have hyr : w1.heap.size < wr.heap.size := by omega
        have hGr : G < wr.heap.size := hM.2.2
        clear hwc hM
        by_cases hlt : k < ce.length
        · obtain ⟨c, hc⟩ : ∃ c, ce[k]? = some c := ⟨_, List.getElem?_eq_getElem hlt⟩
          have hco := O2.out c (List.mem_of_getElem? hc)
          obtain ⟨⟨q1, q2⟩, ⟨q3, q4⟩, ⟨q5, q6⟩, q7, q8⟩ := hco
          obtain ⟨b0, off, rfl, hb0, hcell⟩ := (J2.out.below hBw).elem (fun _ => rfl) hlt hc
          have l0 : wr.cell? ⟨b0, off + k * 4, none⟩ = some (.int .i64 c.v) := hcell 0 _ rfl
          have l1 : wr.cell? ⟨b0, off + k * 4 + 1, none⟩ = some (.int .u8 c.ver) := hcell 1 _ rfl
          have l2 : wr.cell? ⟨b0, off + k * 4 + 2, none⟩ = some (.int .u8 c.who) := hcell 2 _ rfl
          have l3 : wr.cell? ⟨b0, off + k * 4 + 3, none⟩ = some (.int .u16 c.sq) := hcell 3 _ rfl
          have hki : (0 : Int) ≤ (k : Int) := by omega
          have hkj : (k : Int) < (ce.length : Int) := by omega
          have hk8 : (k : Int) < 8 := by omega
          have hb0r : b0 < wr.heap.size := by omega
          have hcs := cesOut_succ ce O1w k
          rw [hc] at hcs
          simp only [] at hcs
          obtain ⟨o, ho⟩ : ∃ o, o = cesOut ce O1w k := ⟨_, rfl⟩
          have hol : o.length = 448 := by rw [ho, cesOut_len, HO1l.out]
          rw [← ho] at hcs HM
          have hin := atL_in 3 8 2 valid382 3 (by decide) (k : Nat) 0 (by omega) (by show ((k : Nat) : Int) < 8; omega) (by decide) (by decide)
          rw [from382] at hin
          obtain ⟨p, hpp⟩ : ∃ p : Nat, atL 3 8 2 3 (k : Nat) 0 = (p : Int) := ⟨(atL 3 8 2 3 (k : Nat) 0).toNat, by omega⟩
          have hcl := fun W hs' => cell_ok 3 8 2 (k : Nat) W valid382 hs'
          rw [hpp] at hcl hcs hin
          rw [Int.toNat_natCast] at hcs
          have hp4 : p < 448 := by omega
          have hp4i : (p : Int) < 448 := by omega
          obtain ⟨z, hzz⟩ : ∃ z, o[p]? = some z := ⟨_, List.getElem?_eq_getElem (by omega)⟩
          have Hzz := hide hzz
          have Hcs := hide hcs
          have Hcl := hide hcl
          have Hol := hide hol
          have hver : IntKind.u32.wrap (c.ver.tmod 9) = c.ver % 9 := by rw [Int.tmod_eq_emod_of_nonneg q3]; exact wraps_u32 _ (by omega) (by omega)
          have Hver := hide hver
          clear hcell hc hcs ho hol hin hpp hcl hzz hver
          go_upto_if 208 with fail
          obtain ⟨wa, hwa⟩ : ∃ wa : World, wa = (wr.alloc (.cells #[.int .i64 c.v, .int .u8 c.ver, .int .u8 c.who, .int .u16 c.sq] 69)).alloc (.cells #[.int .i64 c.v, .int .u32 (c.ver % 9), .int .u32 0] 62) := ⟨_, rfl⟩
          rw [← hwa]
          have m3 : wa.cell? ⟨wr.heap.size, 3, none⟩ = some (.int .u16 c.sq) := by rw [hwa]; go_simp
          have hY : BoxC (wr.heap.size + 1) [.int .i64 c.v, .int .u32 (c.ver % 9), .int .u32 0] wa := by rw [hwa]; exact BoxC.made_at (by simp) _ _
          have hBa : Below wr.heap.size wr wa := by rw [hwa]; exact (by repeat' (first | with_reducible exact Below.refl _ _ | with_reducible assumption | with_reducible refine Below.alloc ?_ ?_ _ | with_reducible refine Below.setCell ?_ ?_ _ | with_reducible refine Below.drew ?_ | with_reducible refine below_drewN ?_ _ | with_reducible refine Below.trans ?_ (Below.mono (by with_reducible assumption) ?_) | omega | (simp <;> omega)))
          have hza : wr.heap.size + 1 < wa.heap.size := by rw [hwa]; simp
          have hza' : wr.heap.size < wa.heap.size := by omega
          clear hwa l0 l1 l2 l3
          go_cut [] (fun wx => BoxC (wr.heap.size + 1) [.int .i64 c.v, .int .u32 (c.ver % 9), .int .u32 (refL c)] wx ∧ Below wr.heap.size wr wx)
          case first =>
            by_cases hw0 : c.who % 6 = 0
            · have hr0 : Hid (refL c = 0) := hide (by unfold refL; rw [if_pos hw0])
              have hd : decide (0 < c.who % 6) = false := decide_eq_false (by omega)
              have hle : c.who % 6 ≤ 0 := by omega
              clear hw0
              go_wp2_with fail
              go_meet
              rw [hr0.out]
              exact ⟨hY, hBa⟩
            · obtain ⟨m, hm⟩ : ∃ m : Nat, c.who % 6 = (m : Int) + 1 := ⟨(c.who % 6).toNat - 1, by omega⟩
              have hr0 : Hid (refL c = holdersL.getD m 0 * 16777216 + (c.sq % 9 + 1)) := hide (by unfold refL slWho; rw [if_neg hw0, hm]; rfl)
              have hm5 : m < 5 := by omega
              have Hrb := hide (ref_bits m hm5 c.sq q7 q8)
              have hm5i : (m : Int) < 5 := by omega
              have hm0 : (0 : Int) ≤ (m : Int) := by omega
              have hsub : IntKind.i64.wrap (c.who % 6 - 1) = (m : Int) := by rw [show c.who % 6 - 1 = (m : Int) by omega]; exact IntWalk.i64_in _ (by omega)
              have hpos : decide (0 < c.who % 6) = true := decide_eq_true (by omega)
              have hgt : 0 < c.who % 6 := by omega
              have y2' := hY.at (j := 2) rfl
              have yz : ∀ o, wa.frozen? ⟨wr.heap.size + 1, o, none⟩ = false := hY.2.1
              clear hw0 hm
              go_wp2_with fail
              refine wp_region_held_drew (S := (fun w' => w'.cell? ⟨wr.heap.size, 3, none⟩ = some (.int .u16 c.sq))) (by kernel_rfl) (by go_simp) (fun hHeld => ?_)
              refine wpAnyH_take (i := 1) (v := ?_) (oi := { dst := some 210, op := Op.move (Operand.tmp 23), type := 3, pos := "law.go:79", after := #[], guard := none }) (by rfl) (by kernel_rfl) (by kernel_rfl) (by kernel_rfl) (fun _ _ _ h => h) (Or.inl ⟨by rfl, ?_⟩) (by assumption) ?_; rotate_left; focus (intro w hSw; (try dsimp only at hSw); go_simp; (try with_reducible rfl); done)
              (try simp only [Act.put, List.setIfInBounds_toArray, List.set_cons_zero, List.set_cons_succ])
              refine wpAnyH_take (i := 2) (v := ?_) (oi := { dst := some 211, op := Op.binOp BinOp.sub 3 (Operand.tmp 210) (Operand.const (Value.int IntKind.i64 1)) 3, type := 3, pos := "law.go:79", after := #[{ on := 1, ground := Ground.data }], guard := none }) (by rfl) (by kernel_rfl) (by kernel_rfl) (by kernel_rfl) (fun _ _ _ h => h) (Or.inl ⟨by rfl, ?_⟩) (by assumption) ?_; rotate_left; focus (intro w hSw; (try dsimp only at hSw); go_simp; (try with_reducible rfl); done)
              (try simp only [Act.put, List.setIfInBounds_toArray, List.set_cons_zero, List.set_cons_succ])
              refine wpAnyH_take (i := 7) (v := ?_) (oi := { dst := some 216, op := Op.fieldAddr 69 (Operand.tmp 21) 3, type := 0, pos := "law.go:79", after := #[], guard := none }) (by rfl) (by kernel_rfl) (by kernel_rfl) (by kernel_rfl) (fun _ _ _ h => h) (Or.inl ⟨by rfl, ?_⟩) (by assumption) ?_; rotate_left; focus (intro w hSw; (try dsimp only at hSw); go_simp; (try with_reducible rfl); done)
              (try simp only [Act.put, List.setIfInBounds_toArray, List.set_cons_zero, List.set_cons_succ])
              refine wpAnyH_take (i := 8) (v := ?_) (oi := { dst := some 217, op := Op.load 29 (Operand.tmp 216), type := 29, pos := "law.go:79", after := #[{ on := 7, ground := Ground.data }], guard := none }) (by rfl) (by kernel_rfl) (by kernel_rfl) (by kernel_rfl) (fun _ _ _ h => h) (Or.inl ⟨by rfl, ?_⟩) (by assumption) ?_; rotate_left; focus (intro w hSw; (try dsimp only at hSw); go_simp; (try with_reducible rfl); done)
              (try simp only [Act.put, List.setIfInBounds_toArray, List.set_cons_zero, List.set_cons_succ])
              refine wpAnyH_take (i := 9) (v := ?_) (oi := { dst := some 218, op := Op.binOp BinOp.rem 29 (Operand.tmp 217) (Operand.const (Value.int IntKind.u16 9)) 29, type := 29, pos := "law.go:79", after := #[{ on := 8, ground := Ground.data }], guard := none }) (by rfl) (by kernel_rfl) (by kernel_rfl) (by kernel_rfl) (fun _ _ _ h => h) (Or.inl ⟨by rfl, ?_⟩) (by assumption) ?_; rotate_left; focus (intro w hSw; (try dsimp only at hSw); go_simp; (try with_reducible rfl); done)
              (try simp only [Act.put, List.setIfInBounds_toArray, List.set_cons_zero, List.set_cons_succ])
              refine wpAnyH_take (i := 10) (v := ?_) (oi := { dst := some 219, op := Op.binOp BinOp.add 29 (Operand.tmp 218) (Operand.const (Value.int IntKind.u16 1)) 29, type := 29, pos := "law.go:79", after := #[{ on := 9, ground := Ground.data }], guard := none }) (by rfl) (by kernel_rfl) (by kernel_rfl) (by kernel_rfl) (fun _ _ _ h => h) (Or.inl ⟨by rfl, ?_⟩) (by assumption) ?_; rotate_left; focus (intro w hSw; (try dsimp only at hSw); go_simp; (try with_reducible rfl); done)
              (try simp only [Act.put, List.setIfInBounds_toArray, List.set_cons_zero, List.set_cons_succ])
              refine wpAnyH_take (i := 11) (v := ?_) (oi := { dst := some 220, op := Op.convert 29 60 (Operand.tmp 219), type := 60, pos := "law.go:79", after := #[{ on := 10, ground := Ground.data }], guard := none }) (by rfl) (by kernel_rfl) (by kernel_rfl) (by kernel_rfl) (fun _ _ _ h => h) (Or.inl ⟨by rfl, ?_⟩) (by assumption) ?_; rotate_left; focus (intro w hSw; (try dsimp only at hSw); go_simp; (try with_reducible rfl); done)
              (try simp only [Act.put, List.setIfInBounds_toArray, List.set_cons_zero, List.set_cons_succ])
              refine wpAnyH_ready (rs := [0]) (by kernel_rfl) (by simp) ?_
              refine AllReadyH.cons (o := { dst := some 209, op := Op.call { callee := Callee.value (Operand.func 16), args := #[], argTypes := #[] }, type := 44, pos := "law.go:79", after := #[], guard := none }) (by rfl) (fun K hK => ?_) (AllReadyH.nil)
              go_simp
              (go_at_call 16; refine (holders_ok _).mono ?_; rintro e w4 ⟨g, rfl, hg, hg0, hg1, hb4'⟩; have hb4 : Below _ _ w4 := (by first | with_reducible exact noDrew hb4' | exact hb4'); clear hb4'; obtain ⟨hcc4, hff4⟩ := bcell hb4; have hs4 := hb4.size; (try simp at hs4); have hz4 : wr.heap.size < w4.heap.size := (by omega); have hz41 : wr.heap.size + 1 < w4.heap.size := (by omega); have hgk := hg m hm5; clear hg; (try simp at hg0); have hgn : ¬ wr.heap.size + 1 = g := (by omega); have hgn1 : ¬ g = wr.heap.size + 1 := (by omega))
              go_wp2_with fail
              refine shut_more hK (S' := fun w' => w'.cell? ⟨wr.heap.size, 3, none⟩ = some (.int .u16 c.sq) ∧ w'.cell? ⟨g, m, none⟩ = some (.int .i64 (holdersL.getD m 0))) (fun w h => h.1) (by exact ⟨by go_simp, by go_simp⟩) (fun hHeld => ?_)
              clear hK K
              (try simp only [Act.put, List.setIfInBounds_toArray, List.set_cons_zero, List.set_cons_succ])
              refine wpAnyH_take (i := 3) (v := ?_) (oi := { dst := some 212, op := Op.indexAddr 44 (Operand.tmp 209) (Operand.tmp 211), type := 0, pos := "law.go:79", after := #[{ on := 0, ground := Ground.data }, { on := 2, ground := Ground.data }], guard := none }) (by rfl) (by kernel_rfl) (by kernel_rfl) (by kernel_rfl) (fun _ _ _ h => h) (Or.inl ⟨by rfl, ?_⟩) (by assumption) ?_; rotate_left; focus (intro w hSw; (try dsimp only at hSw); go_simp; (try with_reducible rfl); done)
              (try simp only [Act.put, List.setIfInBounds_toArray, List.set_cons_zero, List.set_cons_succ])
              refine wpAnyH_take (i := 4) (v := ?_) (oi := { dst := some 213, op := Op.load 3 (Operand.tmp 212), type := 3, pos := "law.go:79", after := #[{ on := 3, ground := Ground.data }], guard := none }) (by rfl) (by kernel_rfl) (by kernel_rfl) (by kernel_rfl) (fun _ _ _ h => h) (Or.inl ⟨by rfl, ?_⟩) (by assumption) ?_; rotate_left; focus (intro w hSw; (try dsimp only at hSw); go_simp; (try with_reducible rfl); done)
              (try simp only [Act.put, List.setIfInBounds_toArray, List.set_cons_zero, List.set_cons_succ])
              refine wpAnyH_take (i := 5) (v := ?_) (oi := { dst := some 214, op := Op.convert 3 60 (Operand.tmp 213), type := 60, pos := "law.go:79", after := #[{ on := 4, ground := Ground.data }], guard := none }) (by rfl) (by kernel_rfl) (by kernel_rfl) (by kernel_rfl) (fun _ _ _ h => h) (Or.inl ⟨by rfl, ?_⟩) (by assumption) ?_; rotate_left; focus (intro w hSw; (try dsimp only at hSw); go_simp; (try with_reducible rfl); done)
              (try simp only [Act.put, List.setIfInBounds_toArray, List.set_cons_zero, List.set_cons_succ])
              refine wpAnyH_take (i := 6) (v := ?_) (oi := { dst := some 215, op := Op.binOp BinOp.shl 60 (Operand.tmp 214) (Operand.const (Value.int IntKind.u64 24)) 70, type := 60, pos := "law.go:79", after := #[{ on := 5, ground := Ground.data }], guard := none }) (by rfl) (by kernel_rfl) (by kernel_rfl) (by kernel_rfl) (fun _ _ _ h => h) (Or.inl ⟨by rfl, ?_⟩) (by assumption) ?_; rotate_left; focus (intro w hSw; (try dsimp only at hSw); go_simp; (try with_reducible rfl); done)
              (try simp only [Act.put, List.setIfInBounds_toArray, List.set_cons_zero, List.set_cons_succ])
              refine wpAnyH_take (i := 12) (v := ?_) (oi := { dst := some 221, op := Op.binOp BinOp.or 60 (Operand.tmp 215) (Operand.tmp 220) 60, type := 60, pos := "law.go:79", after := #[{ on := 6, ground := Ground.data }, { on := 11, ground := Ground.data }], guard := none }) (by rfl) (by kernel_rfl) (by kernel_rfl) (by kernel_rfl) (fun _ _ _ h => h) (Or.inl ⟨by rfl, ?_⟩) (by assumption) ?_; rotate_left; focus (intro w hSw; (try dsimp only at hSw); go_simp; (try with_reducible rfl); done)
              (try simp only [Act.put, List.setIfInBounds_toArray, List.set_cons_zero, List.set_cons_succ])
              refine wpAnyH_take (i := 13) (v := ?_) (oi := { dst := some 222, op := Op.fieldAddr 62 (Operand.tmp 22) 2, type := 0, pos := "law.go:79", after := #[{ on := 0, ground := Ground.phase }, { on := 1, ground := Ground.phase }, { on := 2, ground := Ground.phase }, { on := 3, ground := Ground.phase }, { on := 4, ground := Ground.phase }, { on := 5, ground := Ground.phase }, { on := 6, ground := Ground.phase }, { on := 7, ground := Ground.phase }, { on := 8, ground := Ground.phase }, { on := 9, ground := Ground.phase }, { on := 10, ground := Ground.phase }, { on := 11, ground := Ground.phase }, { on := 12, ground := Ground.phase }], guard := none }) (by rfl) (by kernel_rfl) (by kernel_rfl) (by kernel_rfl) (fun _ _ _ h => h) (Or.inl ⟨by rfl, ?_⟩) (by assumption) ?_; rotate_left; focus (intro w hSw; (try dsimp only at hSw); go_simp; (try with_reducible rfl); done)
              (try simp only [Act.put, List.setIfInBounds_toArray, List.set_cons_zero, List.set_cons_succ])
              refine wpAnyH_ready (rs := [14]) (by kernel_rfl) (by simp) ?_
              refine AllReadyH.cons (o := { dst := none, op := Op.store 60 (Operand.tmp 222) (Operand.tmp 221), type := 0, pos := "law.go:79", after := #[{ on := 13, ground := Ground.data }, { on := 12, ground := Ground.data }, { on := 0, ground := Ground.chain }, { on := 0, ground := Ground.phase }, { on := 1, ground := Ground.phase }, { on := 2, ground := Ground.phase }, { on := 3, ground := Ground.phase }, { on := 4, ground := Ground.phase }, { on := 5, ground := Ground.phase }, { on := 6, ground := Ground.phase }, { on := 7, ground := Ground.phase }, { on := 8, ground := Ground.phase }, { on := 9, ground := Ground.phase }, { on := 10, ground := Ground.phase }, { on := 11, ground := Ground.phase }, { on := 12, ground := Ground.phase }], guard := none }) (by rfl) (fun K hK => ?_) (AllReadyH.nil)
              go_simp
              skip
              go_wp2_with fail
              refine hK.out _ _ (by exact ⟨by go_simp, by go_simp⟩) (fun hHeld => ?_)
              clear hK K
              (try simp only [Act.put, List.setIfInBounds_toArray, List.set_cons_zero, List.set_cons_succ])
              refine wpAnyH_done (by kernel_rfl) ?_ _
              all_goals go_wp2_with fail
              all_goals go_meet
              all_goals rw [Hrb.out, ← hr0.out]
              all_goals exact ⟨((hY.below (show Below wa.heap.size wa w4 by exact (by repeat' (first | with_reducible exact Below.refl _ _ | with_reducible assumption | with_reducible refine Below.alloc ?_ ?_ _ | with_reducible refine Below.setCell ?_ ?_ _ | with_reducible refine Below.drew ?_ | with_reducible refine below_drewN ?_ _ | with_reducible refine Below.trans ?_ (Below.mono (by with_reducible assumption) ?_) | omega | (simp <;> omega))))).store (o := 2) (by simp) _), (by repeat' (first | with_reducible exact Below.refl _ _ | with_reducible assumption | with_reducible refine Below.alloc ?_ ?_ _ | with_reducible refine Below.setCell ?_ ?_ _ | with_reducible refine Below.drew ?_ | with_reducible refine below_drewN ?_ _ | with_reducible refine Below.trans ?_ (Below.mono (by with_reducible assumption) ?_) | omega | (simp <;> omega)))⟩
          case rest =>
            obtain ⟨hY2, hB2'⟩ := hcut
            obtain ⟨wb, hwb⟩ : ∃ wb : World, wb = wc := ⟨_, rfl⟩
            subst hwb
            have hszb := hB2'.size
            have hza2 := hY2.2.2
            have b0' := hY2.at (j := 0) rfl
            have b1' := hY2.at (j := 1) rfl
            have b2' := hY2.at (j := 2) rfl
            have h0b := (hB2'.cell (p := ⟨w1.heap.size, 0, none⟩) hyr).trans f0
            have h1b := (hB2'.cell (p := ⟨w1.heap.size, 1, none⟩) hyr).trans f1
            have h2b := (hB2'.cell (p := ⟨w1.heap.size, 2, none⟩) hyr).trans f2
            have HSb := hide (HSr.out.below hB2')
            have HMb := hide (HM.out.grow hB2')
            have hzb : wr.heap.size < wb.heap.size := by omega
            have hyb : w1.heap.size < wb.heap.size := by omega
            have hGb : G < wb.heap.size := by omega
            have Hbb := hide (hB.of (hB2'.mono hsz))
            have hGn1 : ¬ G = wr.heap.size + 1 := by omega
            have hGn2 : ¬ wr.heap.size + 1 = G := by omega
            have hGn3 : ¬ w1.heap.size = G := by omega
            have hp0i : (0 : Int) ≤ (p : Int) := by omega
            have s0 := HMb.out.w0 Hzz.out
            have s1 := HMb.out.w1 Hzz.out
            have s2 := HMb.out.w2 Hzz.out
            have sf := HMb.out.2.1
            clear hY m3 hBa hY2
            go_wp2_with fail
            refine wp_region_held_drew (S := (fun w' => (w'.cell? ⟨w1.heap.size, 0, none⟩ = some (.int .i64 3) ∧ w'.cell? ⟨w1.heap.size, 1, none⟩ = some (.int .i64 8) ∧ w'.cell? ⟨w1.heap.size, 2, none⟩ = some (.int .i64 2)) ∧ (w'.cell? ⟨wr.heap.size + 1, 0, none⟩ = some (.int .i64 c.v) ∧ w'.cell? ⟨wr.heap.size + 1, 1, none⟩ = some (.int .u32 (c.ver % 9)) ∧ w'.cell? ⟨wr.heap.size + 1, 2, none⟩ = some (.int .u32 (refL c))))) (by kernel_rfl) (by first | exact ⟨⟨h0b, h1b, h2b⟩, ⟨b0', b1', b2'⟩⟩ | exact ⟨⟨by go_simp, by go_simp, by go_simp⟩, ⟨by go_simp, by go_simp, by go_simp⟩⟩) (fun hHeld => ?_)
            refine wpAnyH_take (i := 0) (v := ?_) (oi := { dst := some 223, op := Op.move (Operand.tmp 5), type := 25, pos := "law.go:81", after := #[], guard := none }) (by rfl) (by kernel_rfl) (by kernel_rfl) (by kernel_rfl) (fun _ _ _ h => h) (Or.inl ⟨by rfl, ?_⟩) (by assumption) ?_; rotate_left; focus (intro w hSw; (try dsimp only at hSw); go_simp; (try with_reducible rfl); done)
            (try simp only [Act.put, List.setIfInBounds_toArray, List.set_cons_zero, List.set_cons_succ])
            refine wpAnyH_take (i := 1) (v := ?_) (oi := { dst := some 224, op := Op.load 31 (Operand.tmp 4), type := 31, pos := "law.go:81", after := #[], guard := none }) (by rfl) (by kernel_rfl) (by kernel_rfl) (by kernel_rfl) (fun _ _ _ h => h) (Or.inl ⟨by rfl, ?_⟩) (by assumption) ?_; rotate_left; focus (intro w hSw; (try dsimp only at hSw); go_simp; (try with_reducible rfl); done)
            (try simp only [Act.put, List.setIfInBounds_toArray, List.set_cons_zero, List.set_cons_succ])
            refine wpAnyH_take (i := 2) (v := ?_) (oi := { dst := some 225, op := Op.move (Operand.tmp 20), type := 3, pos := "law.go:81", after := #[], guard := none }) (by rfl) (by kernel_rfl) (by kernel_rfl) (by kernel_rfl) (fun _ _ _ h => h) (Or.inl ⟨by rfl, ?_⟩) (by assumption) ?_; rotate_left; focus (intro w hSw; (try dsimp only at hSw); go_simp; (try with_reducible rfl); done)
            (try simp only [Act.put, List.setIfInBounds_toArray, List.set_cons_zero, List.set_cons_succ])
            refine wpAnyH_take (i := 4) (v := ?_) (oi := { dst := some 227, op := Op.load 62 (Operand.tmp 22), type := 62, pos := "law.go:81", after := #[], guard := none }) (by rfl) (by kernel_rfl) (by kernel_rfl) (by kernel_rfl) (fun _ _ _ h => h) (Or.inl ⟨by rfl, ?_⟩) (by assumption) ?_; rotate_left; focus (intro w hSw; (try dsimp only at hSw); go_simp; (try with_reducible rfl); done)
            (try simp only [Act.put, List.setIfInBounds_toArray, List.set_cons_zero, List.set_cons_succ])
            refine wpAnyH_ready (rs := [3]) (by kernel_rfl) (by simp) ?_
            refine AllReadyH.cons (o := { dst := some 226, op := Op.call { callee := Callee.value (Operand.func 17), args := #[Operand.tmp 224, Operand.tmp 225], argTypes := #[31, 3] }, type := 58, pos := "law.go:81", after := #[{ on := 1, ground := Ground.data }, { on := 2, ground := Ground.data }], guard := none }) (by rfl) (fun K hK => ?_) (AllReadyH.nil)
            go_simp
            (go_at_call 17; refine (Hcl.out _ (HSb.out.below (by repeat' (first | with_reducible exact Below.refl _ _ | with_reducible assumption | with_reducible refine Below.alloc ?_ ?_ _ | with_reducible refine Below.setCell ?_ ?_ _ | with_reducible refine Below.drew ?_ | with_reducible refine below_drewN ?_ _ | with_reducible refine Below.trans ?_ (Below.mono (by with_reducible assumption) ?_) | omega | (simp <;> omega))))).mono ?_; rintro e' w5 ⟨rfl, hb5'⟩; have hb5 : Below _ _ w5 := (by first | with_reducible exact noDrew hb5' | exact hb5'); clear hb5'; obtain ⟨hcc5, hff5⟩ := bcell hb5; have hs5 := hb5.size; (try simp at hs5); have hz5 : wr.heap.size + 1 < w5.heap.size := (by omega); have hy5 : w1.heap.size < w5.heap.size := (by omega))
            go_wp2_with fail
            refine hK.out _ _ (by first | exact ⟨⟨h0b, h1b, h2b⟩, ⟨b0', b1', b2'⟩⟩ | exact ⟨⟨by go_simp, by go_simp, by go_simp⟩, ⟨by go_simp, by go_simp, by go_simp⟩⟩) (fun hHeld => ?_)
            clear hK K
            (try simp only [Act.put, List.setIfInBounds_toArray, List.set_cons_zero, List.set_cons_succ])
            refine wpAnyH_take (i := 5) (v := ?_) (oi := { dst := some 228, op := Op.indexAddr 25 (Operand.tmp 223) (Operand.tmp 226), type := 0, pos := "law.go:81", after := #[{ on := 0, ground := Ground.data }, { on := 3, ground := Ground.data }, { on := 0, ground := Ground.phase }, { on := 1, ground := Ground.phase }, { on := 2, ground := Ground.phase }, { on := 3, ground := Ground.phase }, { on := 4, ground := Ground.phase }], guard := none }) (by rfl) (by kernel_rfl) (by kernel_rfl) (by kernel_rfl) (fun _ _ _ h => h) (Or.inl ⟨by rfl, ?_⟩) (by assumption) ?_; rotate_left; focus (intro w hSw; (try dsimp only at hSw); go_simp; (try with_reducible rfl); done)
            (try simp only [Act.put, List.setIfInBounds_toArray, List.set_cons_zero, List.set_cons_succ])
            refine wpAnyH_ready (rs := [6]) (by kernel_rfl) (by simp) ?_
            refine AllReadyH.cons (o := { dst := none, op := Op.store 62 (Operand.tmp 228) (Operand.tmp 227), type := 0, pos := "law.go:81", after := #[{ on := 5, ground := Ground.data }, { on := 4, ground := Ground.data }, { on := 3, ground := Ground.chain }, { on := 0, ground := Ground.phase }, { on := 1, ground := Ground.phase }, { on := 2, ground := Ground.phase }, { on := 3, ground := Ground.phase }, { on := 4, ground := Ground.phase }], guard := none }) (by rfl) (fun K hK => ?_) (AllReadyH.nil)
            go_simp
            skip
            go_wp2_with fail
            refine hK.out _ _ (by first | exact ⟨⟨h0b, h1b, h2b⟩, ⟨b0', b1', b2'⟩⟩ | exact ⟨⟨by go_simp, by go_simp, by go_simp⟩, ⟨by go_simp, by go_simp, by go_simp⟩⟩) (fun hHeld => ?_)
            clear hK K
            (try simp only [Act.put, List.setIfInBounds_toArray, List.set_cons_zero, List.set_cons_succ])
            refine wpAnyH_done (by kernel_rfl) ?_ _
            all_goals go_wp2_with fail
            all_goals exact ⟨by rw [HI4.out]; exact ⟨rfl, rfl, k + 1, rfl, rfl, rfl, rfl, rfl, rfl, rfl, congrArg some (by go_num), by omega, by rw [Hcs.out]; exact (HMb.out.grow hb5).set3 (by rw [Hol.out]; omega) (ceWord c), by have hBB := Hbb.out; exact (by repeat' (first | with_reducible exact But.refl _ _ _ | with_reducible assumption | with_reducible refine But.alloc ?_ ?_ _ | with_reducible refine But.setCell ?_ ?_ _ | with_reducible refine But.drew ?_ | with_reducible refine But.drewN ?_ _ | with_reducible refine But.of ?_ (Below.mono (by with_reducible assumption) ?_) | (left; rfl) | omega | (right; simp <;> omega) | (simp <;> omega)))⟩, by simp [intOf]; omega⟩
        · obtain rfl : k = ce.length := by omega
          obtain ⟨O2w, hO2w⟩ : ∃ o, o = cesOut ce O1w ce.length := ⟨_, rfl⟩
          have hO2l : O2w.length = 448 := by rw [hO2w, cesOut_len, HO1l.out]
          have HO2w := hide hO2w
          have HO2l := hide hO2l
          have HM4 : Hid (Mem G O2w wr) := by rw [hO2w]; exact HM
          have HB4 := hide hB
          obtain ⟨wo, hwo⟩ : ∃ wo : World, wo = wr := ⟨_, rfl⟩
          subst hwo
          clear hO2w hO2l HM hlt
          go_wp2_with fail
          obtain ⟨I5, hxI5⟩ : ∃ I : Act → World → Prop, I = (fun a wr => a.tmps.size = 282 ∧ a.defers = [] ∧ (∃ k : Nat, (a.tmps.toList[1]? = some (.pointer (some ⟨w.heap.size, 0, none⟩))) ∧ (a.tmps.toList[2]? = some (.slice none 0 0)) ∧ (a.tmps.toList[3]? = some (.bool false)) ∧ (a.tmps.toList[4]? = some (.pointer (some ⟨w1.heap.size, 0, none⟩))) ∧ (a.tmps.toList[5]? = some (.slice (some ⟨G, 0, none⟩) 448 448)) ∧ (a.tmps.toList[231]? = some (.slice Ar re.length cr)) ∧ (a.tmps.toList[232]? = some (.int .i64 re.length)) ∧ (a.tmps.toList[233]? = some (.int .i64 k)) ∧ k ≤ re.length ∧ Mem G (recsOut re O2w k) wr ∧ But G w2.heap.size w2 wr)) := ⟨_, rfl⟩
          have HI5 := hide hxI5
          clear hxI5
          refine wp_loop I5 (fun a wr => re.length - (intOf (a.tmps.getD 233 undef)).toNat) ?_ ?_
          · rw [HI5.out]
            exact ⟨rfl, rfl, 0, rfl, rfl, rfl, rfl, rfl, rfl, rfl, rfl, by omega, HM4.out, HB4.out⟩
          · skip
            clear f0 f1 f2 y1 y2 y3 y4 hBw HSr hzr hyr hGr hsz hB HM4 HB4 hk
            intro a wr hI
            rw [HI5.out] at hI
            obtain ⟨hsz0, hdf0, hI⟩ := hI
            revert hI
            revert hdf0
            revert hsz0
            revert a
            refine elim282 ?_
            intro fr0 fr1 fr2 fr3 fr4 fr5 fr6 fr7 fr8 fr9 fr10 fr11 fr12 fr13 fr14 fr15 fr16 fr17 fr18 fr19 fr20 fr21 fr22 fr23 fr24 fr25 fr26 fr27 fr28 fr29 fr30 fr31 fr32 fr33 fr34 fr35 fr36 fr37 fr38 fr39 fr40 fr41 fr42 fr43 fr44 fr45 fr46 fr47 fr48 fr49 fr50 fr51 fr52 fr53 fr54 fr55 fr56 fr57 fr58 fr59 fr60 fr61 fr62 fr63 fr64 fr65 fr66 fr67 fr68 fr69 fr70 fr71 fr72 fr73 fr74 fr75 fr76 fr77 fr78 fr79 fr80 fr81 fr82 fr83 fr84 fr85 fr86 fr87 fr88 fr89 fr90 fr91 fr92 fr93 fr94 fr95 fr96 fr97 fr98 fr99 fr100 fr101 fr102 fr103 fr104 fr105 fr106 fr107 fr108 fr109 fr110 fr111 fr112 fr113 fr114 fr115 fr116 fr117 fr118 fr119 fr120 fr121 fr122 fr123 fr124 fr125 fr126 fr127 fr128 fr129 fr130 fr131 fr132 fr133 fr134 fr135 fr136 fr137 fr138 fr139 fr140 fr141 fr142 fr143 fr144 fr145 fr146 fr147 fr148 fr149 fr150 fr151 fr152 fr153 fr154 fr155 fr156 fr157 fr158 fr159 fr160 fr161 fr162 fr163 fr164 fr165 fr166 fr167 fr168 fr169 fr170 fr171 fr172 fr173 fr174 fr175 fr176 fr177 fr178 fr179 fr180 fr181 fr182 fr183 fr184 fr185 fr186 fr187 fr188 fr189 fr190 fr191 fr192 fr193 fr194 fr195 fr196 fr197 fr198 fr199 fr200 fr201 fr202 fr203 fr204 fr205 fr206 fr207 fr208 fr209 fr210 fr211 fr212 fr213 fr214 fr215 fr216 fr217 fr218 fr219 fr220 fr221 fr222 fr223 fr224 fr225 fr226 fr227 fr228 fr229 fr230 fr231 fr232 fr233 fr234 fr235 fr236 fr237 fr238 fr239 fr240 fr241 fr242 fr243 fr244 fr245 fr246 fr247 fr248 fr249 fr250 fr251 fr252 fr253 fr254 fr255 fr256 fr257 fr258 fr259 fr260 fr261 fr262 fr263 fr264 fr265 fr266 fr267 fr268 fr269 fr270 fr271 fr272 fr273 fr274 fr275 fr276 fr277 fr278 fr279 fr280 fr281
            intro hI
            obtain ⟨k, g1, g2, g3, g4, g5, g231, g232, g233, hk, hM, hB⟩ := hI
            have e1 := Option.some.inj g1; subst e1
            have e2 := Option.some.inj g2; subst e2
            have e3 := Option.some.inj g3; subst e3
            have e4 := Option.some.inj g4; subst e4
            have e5 := Option.some.inj g5; subst e5
            have e231 := Option.some.inj g231; subst e231
            have e232 := Option.some.inj g232; subst e232
            have e233 := Option.some.inj g233; subst e233
            clear g1 g2 g3 g4 g5 g231 g232 g233
            have hsz := hB.size
            have hwc : ∀ b o, b < w2.heap.size → b ≠ G → wr.cell? ⟨b, o, none⟩ = w2.cell? ⟨b, o, none⟩ := fun b o h1 h2 => hB.cell (p := ⟨b, o, none⟩) h1 h2
            have f0 := (hwc _ 0 hy2 (by omega)).trans e0
            have f1 := (hwc _ 1 hy2 (by omega)).trans e1
            have f2 := (hwc _ 2 hy2 (by omega)).trans e2
            have y1 := (hwc _ 1 hz2 (by omega)).trans x1
            have y2 := (hwc _ 2 hz2 (by omega)).trans x2
            have y3 := (hwc _ 3 hz2 (by omega)).trans x3
            have y4 := (hwc _ 4 hz2 (by omega)).trans x4
            have hBw : Below w.heap.size w2 wr := hB.below (by omega) (by omega)
            have HSr := hide (HS2.out.below' (by omega) hBw)
            have HM := hide hM
            have hzr : w.heap.size < wr.heap.size := by omega
            have hyr : w1.heap.size < wr.heap.size := by omega
            have hGr : G < wr.heap.size := hM.2.2
            clear hwc hM
            by_cases hlt : k < re.length
            · obtain ⟨⟨r0, r1, r2⟩, hr⟩ : ∃ r, re[k]? = some r := ⟨_, List.getElem?_eq_getElem hlt⟩
              have hro := O3.out _ (List.mem_of_getElem? hr)
              simp only [i64ok] at hro
              obtain ⟨⟨q1, q2⟩, ⟨q3, q4⟩, q5, q6⟩ := hro
              obtain ⟨b0, off, rfl, hb0, hcell⟩ := (J3.out.below hBw).elem (fun _ => rfl) hlt hr
              have l0 : wr.cell? ⟨b0, off + k * 3, none⟩ = some (.int .i64 r0) := hcell 0 _ rfl
              have l1 : wr.cell? ⟨b0, off + k * 3 + 1, none⟩ = some (.int .i64 r1) := hcell 1 _ rfl
              have l2 : wr.cell? ⟨b0, off + k * 3 + 2, none⟩ = some (.int .i64 r2) := hcell 2 _ rfl
              have hki : (0 : Int) ≤ (k : Int) := by omega
              have hkj : (k : Int) < (re.length : Int) := by omega
              have hk3 : k < 3 := by omega
              have hb0r : b0 < wr.heap.size := by omega
              have hrs := recsOut_succ re O2w k
              rw [hr] at hrs
              simp only [] at hrs
              obtain ⟨o, ho⟩ : ∃ o, o = recsOut re O2w k := ⟨_, rfl⟩
              have hol : o.length = 448 := by rw [ho, recsOut_len, HO2l.out]
              rw [← ho] at hrs HM
              obtain ⟨p, hpp, hp4⟩ : ∃ p : Nat, atL 3 8 2 2 (k : Nat) 0 = (p : Int) ∧ p + 3 ≤ 448 := by
                match k, hk3 with
                | 0, _ => exact ⟨8 * 4, by decide, by decide⟩
                | 1, _ => exact ⟨8 * 5, by decide, by decide⟩
                | 2, _ => exact ⟨8 * 6, by decide, by decide⟩
              rw [recOut_to _ _ _ _ p _ hpp] at hrs
              have hrc := fun W hs' => record_ok 3 8 2 ((k : Int) + 1) W valid382 hs' (by omega) (by omega)
              rw [show (k : Int) + 1 - 1 = (k : Nat) by omega, hpp] at hrc
              have Hrs := hide hrs
              have Hrc := hide hrc
              have Hol := hide hol
              have hb0w : b0 < w2.heap.size := by omega
              clear hcell hr hrs ho hol hpp hrc
              go_wp2_with fail
              obtain ⟨wa, hwa⟩ : ∃ wa : World, wa = wr.alloc (.cells #[.int .i64 r0, .int .i64 r1, .int .i64 r2] 71) := ⟨_, rfl⟩
              rw [← hwa]
              have hBa : Below wr.heap.size wr wa := by rw [hwa]; exact (by repeat' (first | with_reducible exact Below.refl _ _ | with_reducible assumption | with_reducible refine Below.alloc ?_ ?_ _ | with_reducible refine Below.setCell ?_ ?_ _ | with_reducible refine Below.drew ?_ | with_reducible refine below_drewN ?_ _ | with_reducible refine Below.trans ?_ (Below.mono (by with_reducible assumption) ?_) | omega | (simp <;> omega)))
              have HMa : Hid (Mem G o wa) := hide (HM.out.grow hBa)
              have HBa : Hid (But G w2.heap.size w2 wa) := hide (hB.of (hBa.mono hsz))
              have hsza := hBa.size
              clear hwa l0 l1 l2
              obtain ⟨I6, hxI6⟩ : ∃ I : Act → World → Prop, I = (fun a wq => a.tmps.size = 282 ∧ a.defers = [] ∧ (∃ j : Nat, (a.tmps.toList[1]? = some (.pointer (some ⟨w.heap.size, 0, none⟩))) ∧ (a.tmps.toList[2]? = some (.slice none 0 0)) ∧ (a.tmps.toList[3]? = some (.bool false)) ∧ (a.tmps.toList[4]? = some (.pointer (some ⟨w1.heap.size, 0, none⟩))) ∧ (a.tmps.toList[5]? = some (.slice (some ⟨G, 0, none⟩) 448 448)) ∧ (a.tmps.toList[24]? = some (.int .i64 k)) ∧ (a.tmps.toList[231]? = some (.slice (some ⟨b0, off, none⟩) re.length cr)) ∧ (a.tmps.toList[232]? = some (.int .i64 re.length)) ∧ (a.tmps.toList[233]? = some (.int .i64 k)) ∧ (a.tmps.toList[238]? = some (.agg #[.int .i64 r0, .int .i64 r1, .int .i64 r2])) ∧ (a.tmps.toList[239]? = some (.int .i64 j)) ∧ j ≤ 3 ∧ Mem G (recTo [r0, r1, r2] p o j) wq ∧ But G w2.heap.size w2 wq)) := ⟨_, rfl⟩
              have HI6 := hide hxI6
              clear hxI6
              refine wp_loop I6 (fun a wq => 3 - (intOf (a.tmps.getD 239 undef)).toNat) ?_ ?_
              · rw [HI6.out]
                exact ⟨rfl, rfl, 0, rfl, rfl, rfl, rfl, rfl, rfl, rfl, rfl, rfl, rfl, rfl, by omega, HMa.out, HBa.out⟩
              · skip
                clear f0 f1 f2 y1 y2 y3 y4 hBw HSr hzr hyr hGr hsz hB HMa HBa HM
                intro a wq hI
                rw [HI6.out] at hI
                obtain ⟨hsz0, hdf0, hI⟩ := hI
                revert hI
                revert hdf0
                revert hsz0
                revert a
                refine elim282 ?_
                intro fr0 fr1 fr2 fr3 fr4 fr5 fr6 fr7 fr8 fr9 fr10 fr11 fr12 fr13 fr14 fr15 fr16 fr17 fr18 fr19 fr20 fr21 fr22 fr23 fr24 fr25 fr26 fr27 fr28 fr29 fr30 fr31 fr32 fr33 fr34 fr35 fr36 fr37 fr38 fr39 fr40 fr41 fr42 fr43 fr44 fr45 fr46 fr47 fr48 fr49 fr50 fr51 fr52 fr53 fr54 fr55 fr56 fr57 fr58 fr59 fr60 fr61 fr62 fr63 fr64 fr65 fr66 fr67 fr68 fr69 fr70 fr71 fr72 fr73 fr74 fr75 fr76 fr77 fr78 fr79 fr80 fr81 fr82 fr83 fr84 fr85 fr86 fr87 fr88 fr89 fr90 fr91 fr92 fr93 fr94 fr95 fr96 fr97 fr98 fr99 fr100 fr101 fr102 fr103 fr104 fr105 fr106 fr107 fr108 fr109 fr110 fr111 fr112 fr113 fr114 fr115 fr116 fr117 fr118 fr119 fr120 fr121 fr122 fr123 fr124 fr125 fr126 fr127 fr128 fr129 fr130 fr131 fr132 fr133 fr134 fr135 fr136 fr137 fr138 fr139 fr140 fr141 fr142 fr143 fr144 fr145 fr146 fr147 fr148 fr149 fr150 fr151 fr152 fr153 fr154 fr155 fr156 fr157 fr158 fr159 fr160 fr161 fr162 fr163 fr164 fr165 fr166 fr167 fr168 fr169 fr170 fr171 fr172 fr173 fr174 fr175 fr176 fr177 fr178 fr179 fr180 fr181 fr182 fr183 fr184 fr185 fr186 fr187 fr188 fr189 fr190 fr191 fr192 fr193 fr194 fr195 fr196 fr197 fr198 fr199 fr200 fr201 fr202 fr203 fr204 fr205 fr206 fr207 fr208 fr209 fr210 fr211 fr212 fr213 fr214 fr215 fr216 fr217 fr218 fr219 fr220 fr221 fr222 fr223 fr224 fr225 fr226 fr227 fr228 fr229 fr230 fr231 fr232 fr233 fr234 fr235 fr236 fr237 fr238 fr239 fr240 fr241 fr242 fr243 fr244 fr245 fr246 fr247 fr248 fr249 fr250 fr251 fr252 fr253 fr254 fr255 fr256 fr257 fr258 fr259 fr260 fr261 fr262 fr263 fr264 fr265 fr266 fr267 fr268 fr269 fr270 fr271 fr272 fr273 fr274 fr275 fr276 fr277 fr278 fr279 fr280 fr281
                intro hI
                obtain ⟨j, g1, g2, g3, g4, g5, g24, g231, g232, g233, g238, g239, hj, hM, hB⟩ := hI
                have e1 := Option.some.inj g1; subst e1
                have e2 := Option.some.inj g2; subst e2
                have e3 := Option.some.inj g3; subst e3
                have e4 := Option.some.inj g4; subst e4
                have e5 := Option.some.inj g5; subst e5
                have e24 := Option.some.inj g24; subst e24
                have e231 := Option.some.inj g231; subst e231
                have e232 := Option.some.inj g232; subst e232
                have e233 := Option.some.inj g233; subst e233
                have e238 := Option.some.inj g238; subst e238
                have e239 := Option.some.inj g239; subst e239
                clear g1 g2 g3 g4 g5 g24 g231 g232 g233 g238 g239
                obtain ⟨wr2, hwr2⟩ : ∃ wr2 : World, wr2 = wr := ⟨_, rfl⟩
                subst hwr2
                obtain ⟨wr, hwr⟩ : ∃ wr : World, wr = wq := ⟨_, rfl⟩
                subst hwr
                have hsz := hB.size
                have hwc : ∀ b o, b < w2.heap.size → b ≠ G → wr.cell? ⟨b, o, none⟩ = w2.cell? ⟨b, o, none⟩ := fun b o h1 h2 => hB.cell (p := ⟨b, o, none⟩) h1 h2
                have f0 := (hwc _ 0 hy2 (by omega)).trans e0
                have f1 := (hwc _ 1 hy2 (by omega)).trans e1
                have f2 := (hwc _ 2 hy2 (by omega)).trans e2
                have y1 := (hwc _ 1 hz2 (by omega)).trans x1
                have y2 := (hwc _ 2 hz2 (by omega)).trans x2
                have y3 := (hwc _ 3 hz2 (by omega)).trans x3
                have y4 := (hwc _ 4 hz2 (by omega)).trans x4
                have hBw : Below w.heap.size w2 wr := hB.below (by omega) (by omega)
                have HSr := hide (HS2.out.below' (by omega) hBw)
                have HM := hide hM
                have hzr : w.heap.size < wr.heap.size := by omega
                have hyr : w1.heap.size < wr.heap.size := by omega
                have hGr : G < wr.heap.size := hM.2.2
                clear hwc hM
                by_cases hlt3 : j < 3
                · have hix := idx3 r0 r1 r2 j hlt3
                  obtain ⟨v, hv⟩ : ∃ v, v = [r0, r1, r2].getD j 0 := ⟨_, rfl⟩
                  simp only [← hv] at hix
                  have hto := recTo_succ [r0, r1, r2] p o j
                  rw [← hv] at hto
                  obtain ⟨o2, ho2⟩ : ∃ o2, o2 = recTo [r0, r1, r2] p o j := ⟨_, rfl⟩
                  have hol2 : o2.length = 448 := by rw [ho2, recTo_len, Hol.out]
                  rw [← ho2] at hto HM
                  obtain ⟨z, hzz⟩ : ∃ z, o2[p + j]? = some z := ⟨_, List.getElem?_eq_getElem (by omega)⟩
                  rw [setV_eq hzz] at hto
                  have s0 := HM.out.w0 hzz
                  have sf := HM.out.2.1
                  have Hzz := hide hzz
                  have Hto := hide hto
                  have hq2 : (p : Int) + (j : Int) < 448 := by omega
                  have hq3 : p + j < 448 := by omega
                  have hj0 : (0 : Int) ≤ (j : Int) := by omega
                  have hj3 : (j : Int) < 3 := by omega
                  have hk1 : (k : Int) + 1 ≤ 10 := by omega
                  clear hzz hto hol2 ho2 hv
                  go_wp2_with (first
                    | (go_at_call 20; refine (Hrc.out _ (HSr.out.below (by repeat' (first | with_reducible exact Below.refl _ _ | with_reducible assumption | with_reducible refine Below.alloc ?_ ?_ _ | with_reducible refine Below.setCell ?_ ?_ _ | with_reducible refine Below.drew ?_ | with_reducible refine below_drewN ?_ _ | with_reducible refine Below.trans ?_ (Below.mono (by with_reducible assumption) ?_) | omega | (simp <;> omega))))).mono ?_; rintro e' w5 ⟨rfl, hb5⟩; obtain ⟨hcc5, hff5⟩ := bcell hb5; have hs5 := hb5.size; (try simp at hs5)))
                  exact ⟨by rw [HI6.out]; exact ⟨rfl, rfl, j + 1, rfl, rfl, rfl, rfl, rfl, rfl, rfl, rfl, rfl, rfl, congrArg some (by go_num), by omega, by rw [Hto.out]; exact (HM.out.grow hb5).setV Hzz.out v, (by repeat' (first | with_reducible exact But.refl _ _ _ | with_reducible assumption | with_reducible refine But.alloc ?_ ?_ _ | with_reducible refine But.setCell ?_ ?_ _ | with_reducible refine But.drew ?_ | with_reducible refine But.drewN ?_ _ | with_reducible refine But.of ?_ (Below.mono (by with_reducible assumption) ?_) | (left; rfl) | omega | (right; simp <;> omega) | (simp <;> omega)))⟩, by simp [intOf]; omega⟩
                · obtain rfl : j = 3 := by omega
                  go_wp2_with fail
                  exact ⟨by rw [HI5.out]; exact ⟨rfl, rfl, k + 1, rfl, rfl, rfl, rfl, rfl, rfl, rfl, congrArg some (by go_num), by omega, by rw [Hrs.out]; exact HM.out, hB⟩, by simp [intOf]; omega⟩
            · obtain rfl : k = re.length := by omega
              obtain ⟨O3w, hO3w⟩ : ∃ o, o = recsOut re O2w re.length := ⟨_, rfl⟩
              have hO3l : O3w.length = 448 := by rw [hO3w, recsOut_len, HO2l.out]
              have HO3w := hide hO3w
              have HO3l := hide hO3l
              have HM4 : Hid (Mem G O3w wr) := by rw [hO3w]; exact HM
              have HB4 := hide hB
              obtain ⟨wo, hwo⟩ : ∃ wo : World, wo = wr := ⟨_, rfl⟩
              subst hwo
              clear hO3w hO3l HM hlt
              go_wp2_with fail
              obtain ⟨I7, hxI7⟩ : ∃ I : Act → World → Prop, I = (fun a wr => a.tmps.size = 282 ∧ a.defers = [] ∧ (∃ k : Nat, (a.tmps.toList[1]? = some (.pointer (some ⟨w.heap.size, 0, none⟩))) ∧ (a.tmps.toList[2]? = some (.slice none 0 0)) ∧ (a.tmps.toList[3]? = some (.bool false)) ∧ (a.tmps.toList[4]? = some (.pointer (some ⟨w1.heap.size, 0, none⟩))) ∧ (a.tmps.toList[5]? = some (.slice (some ⟨G, 0, none⟩) 448 448)) ∧ (a.tmps.toList[256]? = some (.slice Ao ov.length co)) ∧ (a.tmps.toList[257]? = some (.int .i64 ov.length)) ∧ (a.tmps.toList[258]? = some (.int .i64 k)) ∧ k ≤ ov.length ∧ Mem G (overOut ov ats O3w k) wr ∧ But G w2.heap.size w2 wr)) := ⟨_, rfl⟩
              have HI7 := hide hxI7
              clear hxI7
              refine wp_loop I7 (fun a wr => ov.length - (intOf (a.tmps.getD 258 undef)).toNat) ?_ ?_
              · rw [HI7.out]
                exact ⟨rfl, rfl, 0, rfl, rfl, rfl, rfl, rfl, rfl, rfl, rfl, by omega, HM4.out, HB4.out⟩
              · skip
                clear f0 f1 f2 y1 y2 y3 y4 hBw HSr hzr hyr hGr hsz hB HM4 HB4 hk
                intro a wr hI
                rw [HI7.out] at hI
                obtain ⟨hsz0, hdf0, hI⟩ := hI
                revert hI
                revert hdf0
                revert hsz0
                revert a
                refine elim282 ?_
                intro fr0 fr1 fr2 fr3 fr4 fr5 fr6 fr7 fr8 fr9 fr10 fr11 fr12 fr13 fr14 fr15 fr16 fr17 fr18 fr19 fr20 fr21 fr22 fr23 fr24 fr25 fr26 fr27 fr28 fr29 fr30 fr31 fr32 fr33 fr34 fr35 fr36 fr37 fr38 fr39 fr40 fr41 fr42 fr43 fr44 fr45 fr46 fr47 fr48 fr49 fr50 fr51 fr52 fr53 fr54 fr55 fr56 fr57 fr58 fr59 fr60 fr61 fr62 fr63 fr64 fr65 fr66 fr67 fr68 fr69 fr70 fr71 fr72 fr73 fr74 fr75 fr76 fr77 fr78 fr79 fr80 fr81 fr82 fr83 fr84 fr85 fr86 fr87 fr88 fr89 fr90 fr91 fr92 fr93 fr94 fr95 fr96 fr97 fr98 fr99 fr100 fr101 fr102 fr103 fr104 fr105 fr106 fr107 fr108 fr109 fr110 fr111 fr112 fr113 fr114 fr115 fr116 fr117 fr118 fr119 fr120 fr121 fr122 fr123 fr124 fr125 fr126 fr127 fr128 fr129 fr130 fr131 fr132 fr133 fr134 fr135 fr136 fr137 fr138 fr139 fr140 fr141 fr142 fr143 fr144 fr145 fr146 fr147 fr148 fr149 fr150 fr151 fr152 fr153 fr154 fr155 fr156 fr157 fr158 fr159 fr160 fr161 fr162 fr163 fr164 fr165 fr166 fr167 fr168 fr169 fr170 fr171 fr172 fr173 fr174 fr175 fr176 fr177 fr178 fr179 fr180 fr181 fr182 fr183 fr184 fr185 fr186 fr187 fr188 fr189 fr190 fr191 fr192 fr193 fr194 fr195 fr196 fr197 fr198 fr199 fr200 fr201 fr202 fr203 fr204 fr205 fr206 fr207 fr208 fr209 fr210 fr211 fr212 fr213 fr214 fr215 fr216 fr217 fr218 fr219 fr220 fr221 fr222 fr223 fr224 fr225 fr226 fr227 fr228 fr229 fr230 fr231 fr232 fr233 fr234 fr235 fr236 fr237 fr238 fr239 fr240 fr241 fr242 fr243 fr244 fr245 fr246 fr247 fr248 fr249 fr250 fr251 fr252 fr253 fr254 fr255 fr256 fr257 fr258 fr259 fr260 fr261 fr262 fr263 fr264 fr265 fr266 fr267 fr268 fr269 fr270 fr271 fr272 fr273 fr274 fr275 fr276 fr277 fr278 fr279 fr280 fr281
                intro hI
                obtain ⟨k, g1, g2, g3, g4, g5, g256, g257, g258, hk, hM, hB⟩ := hI
                have e1 := Option.some.inj g1; subst e1
                have e2 := Option.some.inj g2; subst e2
                have e3 := Option.some.inj g3; subst e3
                have e4 := Option.some.inj g4; subst e4
                have e5 := Option.some.inj g5; subst e5
                have e256 := Option.some.inj g256; subst e256
                have e257 := Option.some.inj g257; subst e257
                have e258 := Option.some.inj g258; subst e258
                clear g1 g2 g3 g4 g5 g256 g257 g258
                have hsz := hB.size
                have hwc : ∀ b o, b < w2.heap.size → b ≠ G → wr.cell? ⟨b, o, none⟩ = w2.cell? ⟨b, o, none⟩ := fun b o h1 h2 => hB.cell (p := ⟨b, o, none⟩) h1 h2
                have f0 := (hwc _ 0 hy2 (by omega)).trans e0
                have f1 := (hwc _ 1 hy2 (by omega)).trans e1
                have f2 := (hwc _ 2 hy2 (by omega)).trans e2
                have y1 := (hwc _ 1 hz2 (by omega)).trans x1
                have y2 := (hwc _ 2 hz2 (by omega)).trans x2
                have y3 := (hwc _ 3 hz2 (by omega)).trans x3
                have y4 := (hwc _ 4 hz2 (by omega)).trans x4
                have hBw : Below w.heap.size w2 wr := hB.below (by omega) (by omega)
                have HSr := hide (HS2.out.below' (by omega) hBw)
                have HM := hide hM
                have hzr : w.heap.size < wr.heap.size := by omega
                have hyr : w1.heap.size < wr.heap.size := by omega
                have hGr : G < wr.heap.size := hM.2.2
                clear hwc hM
                by_cases hlt : k < ov.length
                · obtain ⟨y, hy⟩ : ∃ y, ov[k]? = some y := ⟨_, List.getElem?_eq_getElem hlt⟩
                  obtain ⟨b0, off, rfl, hb0, hcell⟩ := (J4.out.below hBw).elem w3c_len hlt hy
                  have l0 : wr.cell? ⟨b0, off + k * 3, none⟩ = some (.int .i64 y.v) := hcell 0 _ rfl
                  have l1 : wr.cell? ⟨b0, off + k * 3 + 1, none⟩ = some (.int .u32 y.r) := hcell 1 _ rfl
                  have l2 : wr.cell? ⟨b0, off + k * 3 + 2, none⟩ = some (.int .u32 y.f) := hcell 2 _ rfl
                  have hki : (0 : Int) ≤ (k : Int) := by omega
                  have hkj : (k : Int) < (ov.length : Int) := by omega
                  have hb0r : b0 < wr.heap.size := by omega
                  have hov := overOut_succ ov ats O3w k
                  rw [hy] at hov
                  simp only [] at hov
                  obtain ⟨o, ho⟩ : ∃ o, o = overOut ov ats O3w k := ⟨_, rfl⟩
                  have hol : o.length = 448 := by rw [ho, overOut_len, HO3l.out]
                  rw [← ho] at hov HM
                  have Hol := hide hol
                  have HBr := hide hB
                  unfold maxLen at o6
                  by_cases hla : k < ats.length
                  · obtain ⟨av, hav⟩ : ∃ av, ats[k]? = some av := ⟨_, List.getElem?_eq_getElem hla⟩
                    obtain ⟨av0, av1⟩ := O5.out av (List.mem_of_getElem? hav)
                    obtain ⟨ba, oa, rfl, hba, hca⟩ := rd_int16 (J5.out.below hBw) hla hav
                    rw [hav] at hov
                    simp only [] at hov
                    obtain ⟨q, hq⟩ : ∃ q : Nat, av % 448 = (q : Int) := ⟨(av % 448).toNat, by omega⟩
                    have hq4 : q < 448 := by omega
                    have hq4i : (q : Int) < 448 := by omega
                    rw [hq, Int.toNat_natCast] at hov
                    obtain ⟨z, hzz⟩ : ∃ z, o[q]? = some z := ⟨_, List.getElem?_eq_getElem (by omega)⟩
                    have s0 := HM.out.w0 hzz
                    have s1 := HM.out.w1 hzz
                    have s2 := HM.out.w2 hzz
                    have sf := HM.out.2.1
                    have Hov := hide hov
                    have hlai : (k : Int) < (ats.length : Int) := by omega
                    have hbar : ba < wr.heap.size := by omega
                    have hmod : av.tmod 448 = (q : Int) := by rw [Int.tmod_eq_emod_of_nonneg av0, hq]
                    have hwav : IntKind.i64.wrap av = av := IntWalk.i64_in _ (by omega)
                    have hGn1 : ¬ G = wr.heap.size := by omega
                    have hGn2 : ¬ wr.heap.size = G := by omega
                    have hGn3 : ¬ w.heap.size = G := by omega
                    have hbaG : ¬ ba = G := by omega
                    clear hcell hy hov ho hol hav hq hzz
                    go_wp2_with fail
                    refine wp_region_held_drew (S := (fun w' => w'.cell? ⟨w.heap.size, 4, none⟩ = some (.slice (some ⟨ba, oa, none⟩) ats.length ca) ∧ w'.cell? ⟨ba, oa + k, none⟩ = some (.int .u16 av) ∧ (w'.cell? ⟨wr.heap.size, 0, none⟩ = some (.int .i64 y.v) ∧ w'.cell? ⟨wr.heap.size, 1, none⟩ = some (.int .u32 y.r) ∧ w'.cell? ⟨wr.heap.size, 2, none⟩ = some (.int .u32 y.f)))) (by kernel_rfl) (by exact ⟨by go_simp, by go_simp, by go_simp, by go_simp, by go_simp⟩) (fun hHeld => ?_)
                    refine wpAnyH_take (i := 0) (v := ?_) (oi := { dst := some 268, op := Op.move (Operand.tmp 5), type := 25, pos := "law.go:90", after := #[], guard := none }) (by rfl) (by kernel_rfl) (by kernel_rfl) (by kernel_rfl) (fun _ _ _ h => h) (Or.inl ⟨by rfl, ?_⟩) (by assumption) ?_; rotate_left; focus (intro w hSw; (try dsimp only at hSw); go_simp; (try with_reducible rfl); done)
                    (try simp only [Act.put, List.setIfInBounds_toArray, List.set_cons_zero, List.set_cons_succ])
                    refine wpAnyH_take (i := 1) (v := ?_) (oi := { dst := some 269, op := Op.fieldAddr 28 (Operand.tmp 1) 4, type := 0, pos := "law.go:90", after := #[], guard := none }) (by rfl) (by kernel_rfl) (by kernel_rfl) (by kernel_rfl) (fun _ _ _ h => h) (Or.inl ⟨by rfl, ?_⟩) (by assumption) ?_; rotate_left; focus (intro w hSw; (try dsimp only at hSw); go_simp; (try with_reducible rfl); done)
                    (try simp only [Act.put, List.setIfInBounds_toArray, List.set_cons_zero, List.set_cons_succ])
                    refine wpAnyH_take (i := 2) (v := ?_) (oi := { dst := some 270, op := Op.load 26 (Operand.tmp 269), type := 26, pos := "law.go:90", after := #[{ on := 1, ground := Ground.data }], guard := none }) (by rfl) (by kernel_rfl) (by kernel_rfl) (by kernel_rfl) (fun _ _ _ h => h) (Or.inl ⟨by rfl, ?_⟩) (by assumption) ?_; rotate_left; focus (intro w hSw; (try dsimp only at hSw); go_simp; (try with_reducible rfl); done)
                    (try simp only [Act.put, List.setIfInBounds_toArray, List.set_cons_zero, List.set_cons_succ])
                    refine wpAnyH_take (i := 3) (v := ?_) (oi := { dst := some 271, op := Op.move (Operand.tmp 28), type := 3, pos := "law.go:90", after := #[], guard := none }) (by rfl) (by kernel_rfl) (by kernel_rfl) (by kernel_rfl) (fun _ _ _ h => h) (Or.inl ⟨by rfl, ?_⟩) (by assumption) ?_; rotate_left; focus (intro w hSw; (try dsimp only at hSw); go_simp; (try with_reducible rfl); done)
                    (try simp only [Act.put, List.setIfInBounds_toArray, List.set_cons_zero, List.set_cons_succ])
                    refine wpAnyH_take (i := 4) (v := ?_) (oi := { dst := some 272, op := Op.indexAddr 26 (Operand.tmp 270) (Operand.tmp 271), type := 0, pos := "law.go:90", after := #[{ on := 2, ground := Ground.data }, { on := 3, ground := Ground.data }], guard := none }) (by rfl) (by kernel_rfl) (by kernel_rfl) (by kernel_rfl) (fun _ _ _ h => h) (Or.inl ⟨by rfl, ?_⟩) (by assumption) ?_; rotate_left; focus (intro w hSw; (try dsimp only at hSw); go_simp; (try with_reducible rfl); done)
                    (try simp only [Act.put, List.setIfInBounds_toArray, List.set_cons_zero, List.set_cons_succ])
                    refine wpAnyH_take (i := 5) (v := ?_) (oi := { dst := some 273, op := Op.load 29 (Operand.tmp 272), type := 29, pos := "law.go:90", after := #[{ on := 4, ground := Ground.data }], guard := none }) (by rfl) (by kernel_rfl) (by kernel_rfl) (by kernel_rfl) (fun _ _ _ h => h) (Or.inl ⟨by rfl, ?_⟩) (by assumption) ?_; rotate_left; focus (intro w hSw; (try dsimp only at hSw); go_simp; (try with_reducible rfl); done)
                    (try simp only [Act.put, List.setIfInBounds_toArray, List.set_cons_zero, List.set_cons_succ])
                    refine wpAnyH_take (i := 6) (v := ?_) (oi := { dst := some 274, op := Op.convert 29 3 (Operand.tmp 273), type := 3, pos := "law.go:90", after := #[{ on := 5, ground := Ground.data }], guard := none }) (by rfl) (by kernel_rfl) (by kernel_rfl) (by kernel_rfl) (fun _ _ _ h => h) (Or.inl ⟨by rfl, ?_⟩) (by assumption) ?_; rotate_left; focus (intro w hSw; (try dsimp only at hSw); go_simp; (try with_reducible rfl); done)
                    (try simp only [Act.put, List.setIfInBounds_toArray, List.set_cons_zero, List.set_cons_succ])
                    refine wpAnyH_take (i := 7) (v := ?_) (oi := { dst := some 275, op := Op.move (Operand.tmp 5), type := 25, pos := "law.go:90", after := #[], guard := none }) (by rfl) (by kernel_rfl) (by kernel_rfl) (by kernel_rfl) (fun _ _ _ h => h) (Or.inl ⟨by rfl, ?_⟩) (by assumption) ?_; rotate_left; focus (intro w hSw; (try dsimp only at hSw); go_simp; (try with_reducible rfl); done)
                    (try simp only [Act.put, List.setIfInBounds_toArray, List.set_cons_zero, List.set_cons_succ])
                    refine wpAnyH_take (i := 8) (v := ?_) (oi := { dst := some 276, op := Op.call { callee := Callee.builtin Builtin.len, args := #[Operand.tmp 275], argTypes := #[25] }, type := 3, pos := "law.go:90", after := #[{ on := 7, ground := Ground.data }], guard := none }) (by rfl) (by kernel_rfl) (by kernel_rfl) (by kernel_rfl) (fun _ _ _ h => h) (Or.inl ⟨by rfl, ?_⟩) (by assumption) ?_; rotate_left; focus (intro w hSw; (try dsimp only at hSw); go_simp; (try with_reducible rfl); done)
                    (try simp only [Act.put, List.setIfInBounds_toArray, List.set_cons_zero, List.set_cons_succ])
                    refine wpAnyH_take (i := 9) (v := ?_) (oi := { dst := some 277, op := Op.binOp BinOp.rem 3 (Operand.tmp 274) (Operand.tmp 276) 3, type := 3, pos := "law.go:90", after := #[{ on := 6, ground := Ground.data }, { on := 8, ground := Ground.data }], guard := none }) (by rfl) (by kernel_rfl) (by kernel_rfl) (by kernel_rfl) (fun _ _ _ h => h) (Or.inl ⟨by rfl, ?_⟩) (by assumption) ?_; rotate_left; focus (intro w hSw; (try dsimp only at hSw); go_simp; (try with_reducible rfl); done)
                    (try simp only [Act.put, List.setIfInBounds_toArray, List.set_cons_zero, List.set_cons_succ])
                    refine wpAnyH_take (i := 10) (v := ?_) (oi := { dst := some 278, op := Op.load 62 (Operand.tmp 29), type := 62, pos := "law.go:90", after := #[], guard := none }) (by rfl) (by kernel_rfl) (by kernel_rfl) (by kernel_rfl) (fun _ _ _ h => h) (Or.inl ⟨by rfl, ?_⟩) (by assumption) ?_; rotate_left; focus (intro w hSw; (try dsimp only at hSw); go_simp; (try with_reducible rfl); done)
                    (try simp only [Act.put, List.setIfInBounds_toArray, List.set_cons_zero, List.set_cons_succ])
                    refine wpAnyH_take (i := 11) (v := ?_) (oi := { dst := some 279, op := Op.indexAddr 25 (Operand.tmp 268) (Operand.tmp 277), type := 0, pos := "law.go:90", after := #[{ on := 0, ground := Ground.data }, { on := 9, ground := Ground.data }, { on := 0, ground := Ground.phase }, { on := 1, ground := Ground.phase }, { on := 2, ground := Ground.phase }, { on := 3, ground := Ground.phase }, { on := 4, ground := Ground.phase }, { on := 5, ground := Ground.phase }, { on := 6, ground := Ground.phase }, { on := 7, ground := Ground.phase }, { on := 8, ground := Ground.phase }, { on := 9, ground := Ground.phase }, { on := 10, ground := Ground.phase }], guard := none }) (by rfl) (by kernel_rfl) (by kernel_rfl) (by kernel_rfl) (fun _ _ _ h => h) (Or.inl ⟨by rfl, ?_⟩) (by assumption) ?_; rotate_left; focus (intro w hSw; (try dsimp only at hSw); go_simp; (try with_reducible rfl); done)
                    (try simp only [Act.put, List.setIfInBounds_toArray, List.set_cons_zero, List.set_cons_succ])
                    refine wpAnyH_ready (rs := [12]) (by kernel_rfl) (by simp) ?_
                    refine AllReadyH.cons (o := { dst := none, op := Op.store 62 (Operand.tmp 279) (Operand.tmp 278), type := 0, pos := "law.go:90", after := #[{ on := 11, ground := Ground.data }, { on := 10, ground := Ground.data }, { on := 0, ground := Ground.phase }, { on := 1, ground := Ground.phase }, { on := 2, ground := Ground.phase }, { on := 3, ground := Ground.phase }, { on := 4, ground := Ground.phase }, { on := 5, ground := Ground.phase }, { on := 6, ground := Ground.phase }, { on := 7, ground := Ground.phase }, { on := 8, ground := Ground.phase }, { on := 9, ground := Ground.phase }, { on := 10, ground := Ground.phase }], guard := none }) (by rfl) (fun K hK => ?_) (AllReadyH.nil)
                    go_simp
                    skip
                    go_wp2_with fail
                    refine hK.out _ _ (by exact ⟨by go_simp, by go_simp, by go_simp, by go_simp, by go_simp⟩) (fun hHeld => ?_)
                    clear hK K
                    (try simp only [Act.put, List.setIfInBounds_toArray, List.set_cons_zero, List.set_cons_succ])
                    refine wpAnyH_done (by kernel_rfl) ?_ _
                    all_goals go_wp2_with fail
                    all_goals exact ⟨by rw [HI7.out]; exact ⟨rfl, rfl, k + 1, rfl, rfl, rfl, rfl, rfl, rfl, rfl, congrArg some (by go_num), by omega, by rw [Hov.out]; exact (HM.out.set3 (by rw [Hol.out]; omega) y).grow (by repeat' (first | with_reducible exact Below.refl _ _ | with_reducible assumption | with_reducible refine Below.alloc ?_ ?_ _ | with_reducible refine Below.setCell ?_ ?_ _ | with_reducible refine Below.drew ?_ | with_reducible refine below_drewN ?_ _ | with_reducible refine Below.trans ?_ (Below.mono (by with_reducible assumption) ?_) | omega | (simp <;> omega))), by have hBB := HBr.out; exact (by repeat' (first | with_reducible exact But.refl _ _ _ | with_reducible assumption | with_reducible refine But.alloc ?_ ?_ _ | with_reducible refine But.setCell ?_ ?_ _ | with_reducible refine But.drew ?_ | with_reducible refine But.drewN ?_ _ | with_reducible refine But.of ?_ (Below.mono (by with_reducible assumption) ?_) | (left; rfl) | omega | (right; simp <;> omega) | (simp <;> omega)))⟩, by simp [intOf]; omega⟩
                  · have hav : ats[k]? = none := List.getElem?_eq_none (by omega)
                    rw [hav] at hov
                    have Hov := hide hov
                    clear hcell hy hov ho hol hav
                    go_wp2_with fail
                    exact ⟨by rw [HI7.out]; exact ⟨rfl, rfl, k + 1, rfl, rfl, rfl, rfl, rfl, rfl, rfl, congrArg some (by go_num), by omega, by rw [Hov.out]; exact HM.out.grow (by repeat' (first | with_reducible exact Below.refl _ _ | with_reducible assumption | with_reducible refine Below.alloc ?_ ?_ _ | with_reducible refine Below.setCell ?_ ?_ _ | with_reducible refine Below.drew ?_ | with_reducible refine below_drewN ?_ _ | with_reducible refine Below.trans ?_ (Below.mono (by with_reducible assumption) ?_) | omega | (simp <;> omega))), (by repeat' (first | with_reducible exact But.refl _ _ _ | with_reducible assumption | with_reducible refine But.alloc ?_ ?_ _ | with_reducible refine But.setCell ?_ ?_ _ | with_reducible refine But.drew ?_ | with_reducible refine But.drewN ?_ _ | with_reducible refine But.of ?_ (Below.mono (by with_reducible assumption) ?_) | (left; rfl) | omega | (right; simp <;> omega) | (simp <;> omega)))⟩, by simp [intOf]; omega⟩
                · obtain rfl : k = ov.length := by omega
                  have hBf : Below w.heap.size w2 wr := hB.below (by omega) (by omega)
                  go_wp2_with fail
                  rw [HQ.out]
                  refine ⟨G, rfl, ?_, by omega, hB2.trans hBf⟩
                  unfold makeL
                  rw [← HO1w.out, ← HO2w.out, ← HO3w.out]
                  exact HM.out
end Go.Proofs.YtbomhhkknopdpaaGreatDoor
