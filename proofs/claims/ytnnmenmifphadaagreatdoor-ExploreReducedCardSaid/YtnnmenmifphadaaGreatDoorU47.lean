/- The search over worlds of rows: how long Key and Outcome can be. -/
import Derived.Test.YtnnmenmifphadaaGreatDoorU46
set_option linter.unusedSimpArgs false
set_option linter.unusedVariables false
set_option maxRecDepth 100000
set_option maxHeartbeats 40000000
namespace Go.Proofs.YtnnmenmifphadaaGreatDoor
open Go.RowKit Go.Maps Go.Sort
theorem flatM_le {α : Type} {f : α → List UInt8} {M : Nat} : ∀ {l : List α}, (∀ x ∈ l, (f x).length ≤ M) → (l.flatMap f).length ≤ l.length * M
 | [], _ => by simp
 | x :: l, h => by
  have h1 := flatM_le (l := l) (fun y hy => h y (List.mem_cons_of_mem _ hy))
  have h2 := h x List.mem_cons_self
  rw [List.flatMap_cons, List.length_append, List.length_cons, Nat.succ_mul]
  omega
theorem flatN_le {α : Type} {f : α → List UInt8} {N M : Nat} {l : List α} (hl : l.length ≤ N) (h : ∀ x ∈ l, (f x).length ≤ M) : (l.flatMap f).length ≤ N * M := Nat.le_trans (flatM_le h) (Nat.mul_le_mul_right M hl)
def inI (z : Int) : Prop := -9223372036854775808 ≤ z ∧ z ≤ 9223372036854775807
theorem nums_le {N : Nat} {zs : List Int} (hl : zs.length ≤ N) (h : ∀ z ∈ zs, inI z) : (numsT zs).length ≤ N * 22 := by
 unfold numsT
 refine flatN_le hl (fun z hz => ?_)
 have := Lib.itoa_length_le z (h z hz).1 (h z hz).2
 rw [List.length_append]
 simp only [List.length_cons, List.length_nil]
 omega
theorem raw_le {x : W3} (h : x.okW) : (rawT x).length ≤ 66 := by
 obtain ⟨h1, h2, h3⟩ := h
 refine nums_le (N := 3) (Nat.le_refl 3) (fun z hz => ?_)
 simp only [List.mem_cons, List.not_mem_nil, or_false] at hz
 unfold inI
 rcases hz with rfl | rfl | rfl <;> omega
theorem views_le {L : Nat} (hL : L ≤ 4096) {f : Int → Int} (h : ∀ z, 0 ≤ f z ∧ f z ≤ 999) : (viewsT L f).length ≤ 180225 := by
 unfold viewsT
 rw [List.length_append]
 have hl : (locsF L f).length ≤ 4096 := by
  unfold locsF
  have := List.length_filter_le (fun z => decide (f z ≠ 0)) ((List.range L).map (fun (i : Nat) => (i : Int)))
  rw [List.length_map, List.length_range] at this
  omega
 have := flatN_le (f := fun z => numsT [z, f z]) (M := 44) hl (fun z hz => by
  have hz2 := (locsF_mem.1 hz).1
  have hz3 := h z
  refine nums_le (N := 2) (Nat.le_refl 2) (fun y hy => ?_)
  simp only [List.mem_cons, List.not_mem_nil, or_false] at hy
  unfold inI
  rcases hy with rfl | rfl <;> omega)
 simp only [List.length_cons, List.length_nil]
 omega
theorem one_le {z : Int} (h : inI z) : (numsT [z]).length ≤ 22 := nums_le (N := 1) (Nat.le_refl 1) (fun y hy => by rw [List.mem_singleton] at hy; subst hy; exact h)
section
variable {L th n : Nat} {P : PW}
theorem key_short (h : P.In L th n) (hL : L ≤ 4096) (ht : th ≤ 8) (hn : n ≤ 999) : P.keyP.length ≤ 140737488355328 := by
 have e1 := h.q.hs
 have e2 := h.q.vs
 have hm : (P.q.hs.flatMap (fun l => l.flatMap (msgQ P.q.hs.length) ++ [47])).length ≤ 4096 * 200000001 := flatN_le oM (fun l hl => by
  obtain ⟨⟨l0, l1⟩, hp⟩ := h.q.hl l hl
  have q := flatN_le (f := msgQ P.q.hs.length) (N := 1000) (M := 200000) (l := l) oM (fun p hp2 => by
   obtain ⟨p1, p2, p3⟩ := hp p hp2
   unfold msgQ
   rw [List.length_append, List.length_append]
   have r1 := raw_le p1
   have r2 := one_le (z := p.2.1) ⟨by omega, by omega⟩
   have r3 := views_le (L := P.q.hs.length) oM (f := p.2.2) (fun z => by have := p3 z; omega)
   omega)
  rw [List.length_append]
  simp only [List.length_cons, List.length_nil]
  omega)
 have hv : (P.q.vs.flatMap (viewsT P.q.hs.length)).length ≤ 8 * 180225 := flatN_le oM (fun f hf => views_le oM (fun z => by have := h.q.vl f hf z; omega))
 have hlg : P.q.lnT.length ≤ 512 * 220 := by
  unfold MW.lnT
  refine flatN_le (by rw [List.length_zipIdx, h.q.lg]; omega) (fun p hp => ?_)
  have hp1 : p.1 ∈ P.q.logs := by
   obtain ⟨g, i⟩ := p
   rw [List.mem_zipIdx_iff_getElem?] at hp
   exact List.mem_of_getElem? hp
  have hb := h.q.lgl p.1 hp1
  unfold lineQ
  rw [List.length_append]
  have r1 := nums_le (N := 2) (zs := [p.1.1, (p.1.2.length : Int)]) (Nat.le_refl 2) (fun y hy => by
   simp only [List.mem_cons, List.not_mem_nil, or_false] at hy
   unfold inI
   rcases hy with rfl | rfl <;> omega)
  have r2 := flatN_le (f := syncQT P.q.ak p.2 p.1) (N := 8) (M := 22) (l := List.range P.q.vs.length) (by rw [List.length_range]; omega) (fun j _ => by
   have := h.q.ak j (p.2 : Int)
   exact one_le ⟨by omega, by omega⟩)
  omega
 have ht2 : (((P.rows.zip P.ss).zip P.gots).flatMap taskQ).length ≤ 8 * 88000 := by
  have e3 := h.rt
  refine flatN_le (by rw [List.length_zip, List.length_zip]; omega) (fun p hp => ?_)
  obtain ⟨g1, g2⟩ := h.gl p.2 (List.of_mem_zip hp).2
  unfold taskQ
  rw [List.length_append, List.length_append]
  have hb : ∀ b, inI (bitI b) := fun b => by unfold inI bitI; cases b <;> decide
  have r1 := nums_le (N := 2) (zs := [bitI p.1.1.done, bitI p.1.2]) (Nat.le_refl 2) (fun y hy => by
   simp only [List.mem_cons, List.not_mem_nil, or_false] at hy
   rcases hy with rfl | rfl <;> exact hb _)
  have r2 := flatN_le (f := gotT) (N := 999) (M := 88) (l := p.2) oM (fun g hg => by
   have r3 := raw_le (g2 g hg)
   unfold gotT
   rw [List.length_append]
   have r4 := one_le (hb g.k)
   omega)
  simp only [List.length_cons, List.length_nil]
  omega
 unfold PW.keyP MW.memT
 simp only [List.length_append, List.length_cons, List.length_nil]
 omega
theorem itoa_le {z : Int} (h : inI z) : (Lib.itoa z).length ≤ 21 := Lib.itoa_length_le z h.1 h.2
theorem text_le {x : W3} (h : x.okW) : (textW x).length ≤ 100 := by
 obtain ⟨h1, h2, h3⟩ := h
 unfold textW
 have w1 : inI (whoP x.f).1 := by unfold inI whoP; split <;> simp only <;> omega
 have w2 : inI (whoP x.f).2 := by unfold inI whoP; split <;> simp only <;> omega
 have r1 := itoa_le (z := x.v) h1
 have r2 := itoa_le (z := x.r) ⟨by omega, by omega⟩
 have r3 := itoa_le w1
 have r4 := itoa_le w2
 split
 ·simp
 ·split <;> split <;> simp only [List.length_append, List.length_cons, List.length_nil] <;> omega
theorem joinT_le {xs : List (List UInt8)} {N : Nat} (hl : xs.length ≤ N) (h : ∀ x ∈ xs, x.length ≤ 100) : (Lib.join xs [32]).length ≤ N * 101 := by
 cases xs with
 | nil => simp [Lib.join_nil]
 | cons x r =>
  rw [Lib.join_length]
  have hs : Lib.lens (x :: r) ≤ (x :: r).length * 100 := by
   generalize x :: r = ys at h
   induction ys with
   | nil => simp [Lib.lens]
   | cons y ys ih =>
    have h1 := ih (fun z hz => h z (List.mem_cons_of_mem _ hz))
    have h2 := h y List.mem_cons_self
    have e : Lib.lens (y :: ys) = y.length + Lib.lens ys := by simp [Lib.lens]
    rw [e, List.length_cons, Nat.succ_mul]
    omega
  have hN := Nat.mul_le_mul_right 101 hl
  simp only [List.length_cons, List.length_nil] at hs hN ⊢
  omega
theorem out_short (h : P.In L th n) (hL : L ≤ 4096) (ht : th ≤ 8) (hn : n ≤ 999) (hf : P.q.Fit) : P.outP.length ≤ 140737488355328 := by
 have e1 := h.q.hs
 have e3 := h.rt
 have e4 := h.rg
 unfold PW.outP outT
 rw [List.length_append]
 have r1 := joinT_le (xs := P.q.words.map textW) (N := 4096) (by rw [List.length_map]; unfold MW.words; rw [List.length_map]; omega) (fun x hx => by
  obtain ⟨y, hy, rfl⟩ := List.mem_map.1 hx
  exact text_le (words_okW hf y hy))
 have r2 := flatN_le (f := taskO textW) (N := 8) (M := 110000) (l := P.gots) oM (fun l hl => by
  obtain ⟨g1, g2⟩ := h.gl l hl
  unfold taskO
  rw [List.length_append]
  have r3 := flatN_le (f := gotO textW) (N := 999) (M := 102) (l := l) oM (fun g hg => by
   have := text_le (g2 g hg)
   unfold gotO bangT
   rw [List.length_append, List.length_append]
   split <;> simp only [List.length_cons, List.length_nil] <;> omega)
  simp only [List.length_cons, List.length_nil]
  omega)
 omega
theorem PW.In.fits (h : P.In L th n) (h1 : 0 < L ∧ L ≤ 4096) (h2 : 0 < th ∧ th ≤ 8) (h3 : n ≤ 999) : P.Fit := h.fit h1 h2 h3 (key_short h h1.2 h2.2 h3) (out_short h h1.2 h2.2 h3 (h.q.fit h1 h2 h3))
end
def valD (l : List UInt8) : Nat := l.foldl (fun a c => a * 10 + (c.toNat - 48)) 0
theorem valD_snoc (l : List UInt8) (c : UInt8) : valD (l ++ [c]) = valD l * 10 + (c.toNat - 48) := by simp [valD]
theorem dig_toNat {k : Nat} (h : k < 10) : (UInt8.ofNat (48 + k)).toNat = 48 + k := by
 rw [UInt8.toNat_ofNat']
 omega
theorem valD_dec (u : Nat) : valD (Lib.decDigits u) = u := by
 induction u using Nat.strongRecOn with
 | ind u ih =>
  rw [Lib.decDigits]
  split
  ·rename_i h
   show 0 * 10 + ((UInt8.ofNat (48 + u)).toNat - 48) = u
   rw [dig_toNat h]
   omega
  ·rw [valD_snoc, ih (u / 10) oM, dig_toNat (Nat.mod_lt _ dM)]
   omega
theorem dec_dig (u : Nat) : ∀ c ∈ Lib.decDigits u, 48 ≤ c.toNat ∧ c.toNat ≤ 57 := by
 induction u using Nat.strongRecOn with
 | ind u ih =>
  rw [Lib.decDigits]
  split
  ·rename_i h
   intro c hc
   rw [List.mem_singleton] at hc
   subst hc
   rw [dig_toNat h]
   omega
  ·intro c hc
   rcases List.mem_append.1 hc with hc | hc
   ·exact ih (u / 10) oM c hc
   ·rw [List.mem_singleton] at hc
    subst hc
    rw [dig_toNat (Nat.mod_lt _ dM)]
    omega
theorem itoa_num (z : Int) : ∀ c ∈ Lib.itoa z, c.toNat = 45 ∨ (48 ≤ c.toNat ∧ c.toNat ≤ 57) := by
 intro c hc
 unfold Lib.itoa at hc
 split at hc
 ·rcases List.mem_cons.1 hc with rfl | hc
  ·exact .inl rfl
  ·exact .inr (dec_dig _ c hc)
 ·exact .inr (dec_dig _ c hc)
theorem itoa_inj {x y : Int} (h : Lib.itoa x = Lib.itoa y) : x = y := by
 unfold Lib.itoa at h
 by_cases hx : x < 0
 ·by_cases hy : y < 0
  ·rw [if_pos hx, if_pos hy] at h
   injection h with _ h
   have q := congrArg valD h
   rw [valD_dec, valD_dec] at q
   omega
  ·rw [if_pos hx, if_neg hy] at h
   have q := dec_dig y.toNat 45 (by rw [← h]; exact List.mem_cons_self)
   exact absurd q.1 dM
 ·by_cases hy : y < 0
  ·rw [if_neg hx, if_pos hy] at h
   have q := dec_dig x.toNat 45 (by rw [h]; exact List.mem_cons_self)
   exact absurd q.1 dM
  ·rw [if_neg hx, if_neg hy] at h
   have q := congrArg valD h
   rw [valD_dec, valD_dec] at q
   omega
theorem sep_split {s : UInt8} : ∀ {a b x y : List UInt8}, s ∉ a → s ∉ b → a ++ s :: x = b ++ s :: y → a = b ∧ x = y
 | [], [], _, _, _, _, h => by injection h with _ h; exact ⟨rfl, h⟩
 | [], c :: b, _, _, _, hb, h => by injection h with h _; exact absurd (h ▸ List.mem_cons_self) hb
 | c :: a, [], _, _, ha, _, h => by injection h with h _; exact absurd (h ▸ List.mem_cons_self) ha
 | c :: a, d :: b, x, y, ha, hb, h => by
  injection h with h1 h2
  obtain ⟨h3, h4⟩ := sep_split (fun hm => ha (List.mem_cons_of_mem _ hm)) (fun hm => hb (List.mem_cons_of_mem _ hm)) h2
  exact ⟨by rw [h1, h3], h4⟩
theorem nums_inj : ∀ {xs ys : List Int} {a b : List UInt8}, xs.length = ys.length → numsT xs ++ a = numsT ys ++ b → xs = ys ∧ a = b
 | [], [], _, _, _, h => ⟨rfl, h⟩
 | [], _ :: _, _, _, hl, _ => by simp at hl
 | _ :: _, [], _, _, hl, _ => by simp at hl
 | x :: xs, y :: ys, a, b, hl, h => by
  have e : ∀ (z : Int) (zs : List Int) (c : List UInt8), numsT (z :: zs) ++ c = Lib.itoa z ++ 44 :: (numsT zs ++ c) := fun z zs c => by simp [numsT]
  rw [e, e] at h
  have n44 : ∀ z : Int, (44 : UInt8) ∉ Lib.itoa z := fun z hm => by
   have := itoa_num z 44 hm
   revert this
   decide
  obtain ⟨h1, h2⟩ := sep_split (n44 x) (n44 y) h
  obtain ⟨h3, h4⟩ := nums_inj (by simpa using hl) h2
  exact ⟨by rw [itoa_inj h1, h3], h4⟩
theorem nums_no {s : UInt8} (h44 : s ≠ 44) (h : ∀ z : Int, s ∉ Lib.itoa z) (zs : List Int) : s ∉ numsT zs := by
 intro hm
 unfold numsT at hm
 obtain ⟨z, _, hz⟩ := List.mem_flatMap.1 hm
 rcases List.mem_append.1 hz with h1 | h1
 ·exact h z h1
 ·rw [List.mem_singleton] at h1
  exact h44 h1
theorem no59 (z : Int) : (59 : UInt8) ∉ Lib.itoa z := fun hm => by
 have := itoa_num z 59 hm
 revert this
 decide
theorem no47 (z : Int) : (47 : UInt8) ∉ Lib.itoa z := fun hm => by
 have := itoa_num z 47 hm
 revert this
 decide
theorem no124 (z : Int) : (124 : UInt8) ∉ Lib.itoa z := fun hm => by
 have := itoa_num z 124 hm
 revert this
 decide
theorem bitI_inj {a b : Bool} (h : bitI a = bitI b) : a = b := by
 cases a <;> cases b <;> first | rfl | (exact absurd h dM)
theorem gots_inj : ∀ {g g' : List GS}, g.flatMap gotT = g'.flatMap gotT → g = g'
 | [], [], _ => rfl
 | [], x :: g', h => by
  have := congrArg List.length h
  simp [gotT, rawT, numsT] at this
 | x :: g, [], h => by
  have := congrArg List.length h
  simp [gotT, rawT, numsT] at this
 | x :: g, y :: g', h => by
  rw [List.flatMap_cons, List.flatMap_cons] at h
  have e : ∀ (z : GS) (c : List UInt8), gotT z ++ c = numsT [z.v, z.r, z.f, bitI z.k] ++ c := fun z c => by simp [gotT, rawT, numsT]
  rw [e, e] at h
  obtain ⟨h1, h2⟩ := nums_inj (by rfl) h
  have h3 := gots_inj h2
  obtain ⟨v, r, f, k⟩ := x
  obtain ⟨v', r', f', k'⟩ := y
  simp only [List.cons.injEq, and_true] at h1
  obtain ⟨rfl, rfl, rfl, h1⟩ := h1
  rw [bitI_inj h1, h3]
theorem ends_inj {s : UInt8} : ∀ {X Y : List (List UInt8)} {a b : List UInt8}, (∀ x ∈ X, s ∉ x) → (∀ y ∈ Y, s ∉ y) → s ∉ a → s ∉ b → X.flatMap (fun x => x ++ [s]) ++ a = Y.flatMap (fun x => x ++ [s]) ++ b → X = Y ∧ a = b
 | [], [], _, _, _, _, _, _, h => ⟨rfl, h⟩
 | [], y :: Y, a, b, _, _, ha, _, h => by
  exfalso
  have h' : a = y ++ [s] ++ Y.flatMap (fun x => x ++ [s]) ++ b := by simpa using h
  exact ha (by rw [h']; simp)
 | x :: X, [], a, b, _, _, _, hb, h => by
  exfalso
  have h' : b = x ++ [s] ++ X.flatMap (fun x => x ++ [s]) ++ a := by simpa using h.symm
  exact hb (by rw [h']; simp)
 | x :: X, y :: Y, a, b, hX, hY, ha, hb, h => by
  have e : ∀ (z : List UInt8) (Z : List (List UInt8)) (c : List UInt8), (z :: Z).flatMap (fun x => x ++ [s]) ++ c = z ++ s :: (Z.flatMap (fun x => x ++ [s]) ++ c) := fun z Z c => by simp
  rw [e, e] at h
  obtain ⟨h1, h2⟩ := sep_split (hX x List.mem_cons_self) (hY y List.mem_cons_self) h
  obtain ⟨h3, h4⟩ := ends_inj (fun z hz => hX z (List.mem_cons_of_mem _ hz)) (fun z hz => hY z (List.mem_cons_of_mem _ hz)) ha hb h2
  exact ⟨by rw [h1, h3], h4⟩
theorem heads_inj {s : UInt8} : ∀ {X Y : List (List UInt8)} {a b : List UInt8}, (∀ x ∈ X, s ∉ x) → (∀ y ∈ Y, s ∉ y) → s ∉ a → s ∉ b → a ++ X.flatMap (fun x => s :: x) = b ++ Y.flatMap (fun x => s :: x) → a = b ∧ X = Y
 | [], [], _, _, _, _, _, _, h => ⟨by simpa using h, rfl⟩
 | [], y :: Y, a, b, _, _, ha, _, h => by
  exfalso
  have h' : a = b ++ s :: (y ++ Y.flatMap (fun x => s :: x)) := by simpa using h
  exact ha (by rw [h']; simp)
 | x :: X, [], a, b, _, _, _, hb, h => by
  exfalso
  have h' : b = a ++ s :: (x ++ X.flatMap (fun x => s :: x)) := by simpa using h.symm
  exact hb (by rw [h']; simp)
 | x :: X, y :: Y, a, b, hX, hY, ha, hb, h => by
  rw [List.flatMap_cons, List.flatMap_cons, List.cons_append, List.cons_append] at h
  obtain ⟨h1, h2⟩ := sep_split ha hb h
  obtain ⟨h3, h4⟩ := heads_inj (fun z hz => hX z (List.mem_cons_of_mem _ hz)) (fun z hz => hY z (List.mem_cons_of_mem _ hz)) (hX x List.mem_cons_self) (hY y List.mem_cons_self) h2
  exact ⟨h1, by rw [h3, h4]⟩
def bodyM (L : Nat) (p : Msg) : List UInt8 := rawT p.1 ++ (numsT [p.2.1] ++ (locsF L p.2.2).flatMap (fun z => numsT [z, p.2.2 z]))
theorem msgQ_body (L : Nat) (p : Msg) : msgQ L p = bodyM L p ++ [59] := by simp [msgQ, bodyM, viewsT]
theorem hist_body (L : Nat) (l : List Msg) : l.flatMap (msgQ L) = (l.map (bodyM L)).flatMap (fun x => x ++ [59]) := by
 rw [List.flatMap_map]
 congr 1
 funext p
 exact msgQ_body L p
theorem body_no {s : UInt8} (h44 : s ≠ 44) (h : ∀ z : Int, s ∉ Lib.itoa z) (L : Nat) (p : Msg) : s ∉ bodyM L p := by
 intro hm
 unfold bodyM at hm
 rcases List.mem_append.1 hm with h1 | h1
 ·exact nums_no h44 h _ h1
 ·rcases List.mem_append.1 h1 with h1 | h1
  ·exact nums_no h44 h _ h1
  ·obtain ⟨z, _, hz⟩ := List.mem_flatMap.1 h1
   exact nums_no h44 h _ hz
theorem views_no {s : UInt8} (h44 : s ≠ 44) (h59 : s ≠ 59) (h : ∀ z : Int, s ∉ Lib.itoa z) (L : Nat) (f : Int → Int) : s ∉ viewsT L f := by
 intro hm
 unfold viewsT at hm
 rcases List.mem_append.1 hm with h1 | h1
 ·obtain ⟨z, _, hz⟩ := List.mem_flatMap.1 h1
  exact nums_no h44 h _ hz
 ·rw [List.mem_singleton] at h1
  exact h59 h1
theorem hist_no {s : UInt8} (h44 : s ≠ 44) (h59 : s ≠ 59) (h : ∀ z : Int, s ∉ Lib.itoa z) (L : Nat) (l : List Msg) : s ∉ l.flatMap (msgQ L) := by
 intro hm
 obtain ⟨p, _, hp⟩ := List.mem_flatMap.1 hm
 rw [msgQ_body] at hp
 rcases List.mem_append.1 hp with h1 | h1
 ·exact body_no h44 h L p h1
 ·rw [List.mem_singleton] at h1
  exact h59 h1
theorem memT_no (q : MW) : (124 : UInt8) ∉ q.memT := by
 intro hm
 unfold MW.memT at hm
 rcases List.mem_append.1 hm with h1 | h1
 ·obtain ⟨l, _, hl⟩ := List.mem_flatMap.1 h1
  rcases List.mem_append.1 hl with h2 | h2
  ·exact hist_no dM dM no124 _ l h2
  ·rw [List.mem_singleton] at h2
   exact absurd h2 dM
 ·obtain ⟨f, _, hf⟩ := List.mem_flatMap.1 h1
  exact views_no dM dM no124 _ f hf
theorem lnT_no (q : MW) : (124 : UInt8) ∉ q.lnT := by
 intro hm
 unfold MW.lnT at hm
 obtain ⟨p, _, hp⟩ := List.mem_flatMap.1 hm
 unfold lineQ at hp
 rcases List.mem_append.1 hp with h1 | h1
 ·exact nums_no dM no124 _ h1
 ·obtain ⟨j, _, hj⟩ := List.mem_flatMap.1 h1
  exact nums_no dM no124 _ hj
def segQ (p : (RowP × Bool) × List GS) : List UInt8 := numsT [bitI p.1.1.done, bitI p.1.2] ++ p.2.flatMap gotT
theorem seg_no (p : (RowP × Bool) × List GS) : (124 : UInt8) ∉ segQ p := by
 intro hm
 unfold segQ at hm
 rcases List.mem_append.1 hm with h1 | h1
 ·exact nums_no dM no124 _ h1
 ·obtain ⟨g, _, hg⟩ := List.mem_flatMap.1 h1
  unfold gotT rawT at hg
  rcases List.mem_append.1 hg with h1 | h1
  ·exact nums_no dM no124 _ h1
  ·exact nums_no dM no124 _ h1
theorem key_form (P : PW) : P.keyP = P.q.memT ++ 124 :: (P.q.lnT ++ (((P.rows.zip P.ss).zip P.gots).map segQ).flatMap (fun x => 124 :: x)) := by
 unfold PW.keyP
 rw [List.flatMap_map]
 have e : taskQ = fun p => 124 :: segQ p := by
  funext p
  simp [taskQ, segQ]
 rw [e]
 simp
theorem last_fst {L : Nat} {l l' : List Msg} (h : l.map (bodyM L) = l'.map (bodyM L)) : (l.getLast?).map Prod.fst = (l'.getLast?).map Prod.fst := by
 have q := congrArg List.getLast? h
 rw [List.getLast?_map, List.getLast?_map] at q
 cases e1 : l.getLast? with
 | none => rw [e1] at q; cases e2 : l'.getLast? with
  | none => rfl
  | some b => rw [e2] at q; cases q
 | some a =>
  rw [e1] at q
  cases e2 : l'.getLast? with
  | none => rw [e2] at q; cases q
  | some b =>
   rw [e2] at q
   have q' : bodyM L a = bodyM L b := by injection q
   unfold bodyM rawT at q'
   obtain ⟨h1, _⟩ := nums_inj (by rfl) q'
   obtain ⟨⟨v, r, f⟩, t⟩ := a
   obtain ⟨⟨v', r', f'⟩, t'⟩ := b
   simp only [List.cons.injEq, and_true] at h1
   obtain ⟨rfl, rfl, rfl⟩ := h1
   rfl
theorem key_tells {L n n' : Nat} {P P' : PW} (h : P.In L 3 n) (h' : P'.In L 3 n') (hk : P.keyP = P'.keyP) : P.q.words = P'.q.words ∧ P.gots = P'.gots ∧ P.ss = P'.ss := by
 rw [key_form, key_form] at hk
 obtain ⟨h1, h2⟩ := sep_split (memT_no _) (memT_no _) hk
 obtain ⟨_, h3⟩ := heads_inj (fun x hx => by obtain ⟨p, _, rfl⟩ := List.mem_map.1 hx; exact seg_no p) (fun x hx => by obtain ⟨p, _, rfl⟩ := List.mem_map.1 hx; exact seg_no p) (lnT_no _) (lnT_no _) h2
 have e1 := h.q.hs
 have e1' := h'.q.hs
 have e2 := h.rt
 have e3 := h.rs
 have e4 := h.rg
 have e2' := h'.rt
 have e3' := h'.rs
 have e4' := h'.rg
 refine ⟨?_, ?_, ?_⟩
 ·unfold MW.memT at h1
  rw [e1, e1'] at h1
  have hX : ∀ q : MW, q.hs.flatMap (fun l => l.flatMap (msgQ L) ++ [47]) = (q.hs.map (fun l => l.flatMap (msgQ L))).flatMap (fun x => x ++ [47]) := fun q => by rw [List.flatMap_map]
  rw [hX, hX] at h1
  have nv : ∀ q : MW, (47 : UInt8) ∉ q.vs.flatMap (viewsT L) := fun q hm => by
   obtain ⟨f, _, hf⟩ := List.mem_flatMap.1 hm
   exact views_no dM dM no47 _ f hf
  obtain ⟨h5, _⟩ := ends_inj (fun x hx => by obtain ⟨l, _, rfl⟩ := List.mem_map.1 hx; exact hist_no dM dM no47 _ l) (fun x hx => by obtain ⟨l, _, rfl⟩ := List.mem_map.1 hx; exact hist_no dM dM no47 _ l) (nv _) (nv _) h1
  unfold MW.words
  refine List.ext_getElem? (fun i => ?_)
  rw [List.getElem?_map, List.getElem?_map]
  have h6 := congrArg (fun z => z[i]?) h5
  simp only [List.getElem?_map] at h6
  cases g1 : P.q.hs[i]? with
  | none => rw [g1] at h6; cases g2 : P'.q.hs[i]? with
   | none => rfl
   | some b => rw [g2] at h6; cases h6
  | some a =>
   rw [g1] at h6
   cases g2 : P'.q.hs[i]? with
   | none => rw [g2] at h6; cases h6
   | some b =>
    rw [g2] at h6
    have h7 : a.flatMap (msgQ L) = b.flatMap (msgQ L) := by injection h6
    rw [hist_body, hist_body] at h7
    obtain ⟨h8, _⟩ := ends_inj (X := a.map (bodyM L)) (Y := b.map (bodyM L)) (a := []) (b := []) (fun x hx => by obtain ⟨p, _, rfl⟩ := List.mem_map.1 hx; exact body_no dM no59 _ p) (fun x hx => by obtain ⟨p, _, rfl⟩ := List.mem_map.1 hx; exact body_no dM no59 _ p) sM sM (by rw [h7])
    show some (((a.getLast?).map Prod.fst).getD _) = some (((b.getLast?).map Prod.fst).getD _)
    rw [last_fst h8]
 ·refine List.ext_getElem? (fun i => ?_)
  by_cases hi : i < 3
  ·have g1 : P.gots[i]? = some P.gots[i] := List.getElem?_eq_getElem oM
   have g2 : P'.gots[i]? = some P'.gots[i] := List.getElem?_eq_getElem oM
   have h6 := congrArg (fun z => z[i]?) h3
   simp only [List.getElem?_map] at h6
   rw [List.getElem?_eq_getElem (by rw [List.length_zip, List.length_zip]; omega), List.getElem?_eq_getElem (by rw [List.length_zip, List.length_zip]; omega), Option.map_some, Option.map_some] at h6
   have h7 : segQ (((P.rows.zip P.ss).zip P.gots)[i]'(by rw [List.length_zip, List.length_zip]; omega)) = segQ (((P'.rows.zip P'.ss).zip P'.gots)[i]'(by rw [List.length_zip, List.length_zip]; omega)) := by injection h6
   unfold segQ at h7
   obtain ⟨_, h8⟩ := nums_inj (by rfl) h7
   have h9 := gots_inj h8
   simp only [List.getElem_zip] at h9
   rw [g1, g2, h9]
  ·rw [List.getElem?_eq_none_iff.2 oM, List.getElem?_eq_none_iff.2 oM]
 ·refine List.ext_getElem? (fun i => ?_)
  by_cases hi : i < 3
  ·have g1 : P.ss[i]? = some P.ss[i] := List.getElem?_eq_getElem oM
   have g2 : P'.ss[i]? = some P'.ss[i] := List.getElem?_eq_getElem oM
   have h6 := congrArg (fun z => z[i]?) h3
   simp only [List.getElem?_map] at h6
   rw [List.getElem?_eq_getElem (by rw [List.length_zip, List.length_zip]; omega), List.getElem?_eq_getElem (by rw [List.length_zip, List.length_zip]; omega), Option.map_some, Option.map_some] at h6
   have h7 : segQ (((P.rows.zip P.ss).zip P.gots)[i]'(by rw [List.length_zip, List.length_zip]; omega)) = segQ (((P'.rows.zip P'.ss).zip P'.gots)[i]'(by rw [List.length_zip, List.length_zip]; omega)) := by injection h6
   unfold segQ at h7
   obtain ⟨h8, _⟩ := nums_inj (by rfl) h7
   simp only [List.cons.injEq, and_true, List.getElem_zip] at h8
   rw [g1, g2, bitI_inj h8.2]
  ·rw [List.getElem?_eq_none_iff.2 oM, List.getElem?_eq_none_iff.2 oM]
def awX (A : Nat → Option Addr) (c : Nat → Nat) : ActsV := ⟨A, c, fun k => if k = 0 then [⟨3, 0, 0, 0, 0, 1, 0, 0⟩] else if k = 1 then [⟨1, 0, 0, 0, 0, 0, 0, 0⟩] else []⟩
def aw0 (A : Nat → Option Addr) (c : Nat → Nat) : PW := PW0 [⟨0, 0, 0⟩] (awX A c)
def awOk (A : Nat → Option Addr) (c : Nat → Nat) (P : PW) : Prop := P = aw0 A c ∨ P = (aw0 A c).next (0, 0) ∨ P = ((aw0 A c).next (0, 0)).next (1, 0) ∨ P = ((aw0 A c).next (0, 0)).next (1, 1) ∨ P = (aw0 A c).next (1, 0) ∨ P = ((aw0 A c).next (1, 0)).next (0, 0)
theorem aw_in0 (A : Nat → Option Addr) (c : Nat → Nat) : (aw0 A c).In 1 3 0 := by
 refine PW0_in (ws := [⟨0, 0, 0⟩]) (fun y hy => ?_) (fun k hk => ?_)
 ·rw [List.mem_singleton] at hy
  subst hy
  exact okW0
 ·have h3 : k = 0 ∨ k = 1 ∨ k = 2 := by omega
  rcases h3 with rfl | rfl | rfl
  ·refine ⟨by show (1 : Nat) ≤ 100; decide, fun a ha => ?_⟩
   rw [show (awX A c).l 0 = [⟨3, 0, 0, 0, 0, 1, 0, 0⟩] from rfl, List.mem_singleton] at ha
   subst ha
   show (⟨1, 0, 0⟩ : W3).okW
   unfold W3.okW
   decide
  ·refine ⟨by show (1 : Nat) ≤ 100; decide, fun a ha => ?_⟩
   rw [show (awX A c).l 1 = [⟨1, 0, 0, 0, 0, 0, 0, 0⟩] from rfl, List.mem_singleton] at ha
   subst ha
   exact okW0
  ·exact ⟨by show (0 : Nat) ≤ 100; decide, fun a ha => by cases ha⟩
theorem aw_cs0 (A : Nat → Option Addr) (c : Nat → Nat) : (aw0 A c).cs = [1, 1, 0] := by kernel_rfl
theorem aw_cs1 (A : Nat → Option Addr) (c : Nat → Nat) : ((aw0 A c).next (0, 0)).cs = [0, 2, 0] := by kernel_rfl
theorem aw_cs2 (A : Nat → Option Addr) (c : Nat → Nat) : (((aw0 A c).next (0, 0)).next (1, 0)).cs = [0, 0, 0] := by kernel_rfl
theorem aw_cs3 (A : Nat → Option Addr) (c : Nat → Nat) : (((aw0 A c).next (0, 0)).next (1, 1)).cs = [0, 0, 0] := by kernel_rfl
theorem aw_cs4 (A : Nat → Option Addr) (c : Nat → Nat) : ((aw0 A c).next (1, 0)).cs = [1, 0, 0] := by kernel_rfl
theorem aw_cs5 (A : Nat → Option Addr) (c : Nat → Nat) : (((aw0 A c).next (1, 0)).next (0, 0)).cs = [0, 0, 0] := by kernel_rfl
theorem aw_next (A : Nat → Option Addr) (c : Nat → Nat) (P : PW) (s : Nat × Nat) (h : awOk A c P) (hs : s ∈ stpTo P.cs P.cs.length) : awOk A c (P.next s) := by
 have e0 : stpTo [1, 1, 0] 3 = [(0, 0), (1, 0)] := by decide
 have e1 : stpTo [0, 2, 0] 3 = [(1, 0), (1, 1)] := by decide
 have e2 : stpTo [0, 0, 0] 3 = [] := by decide
 have e4 : stpTo [1, 0, 0] 3 = [(0, 0)] := by decide
 rcases h with rfl | rfl | rfl | rfl | rfl | rfl
 ·rw [aw_cs0] at hs
  rw [show ([1, 1, 0] : List Nat).length = 3 from rfl, e0] at hs
  simp only [List.mem_cons, List.not_mem_nil, or_false] at hs
  rcases hs with rfl | rfl
  ·exact .inr (.inl rfl)
  ·exact .inr (.inr (.inr (.inr (.inl rfl))))
 ·rw [aw_cs1] at hs
  rw [show ([0, 2, 0] : List Nat).length = 3 from rfl, e1] at hs
  simp only [List.mem_cons, List.not_mem_nil, or_false] at hs
  rcases hs with rfl | rfl
  ·exact .inr (.inr (.inl rfl))
  ·exact .inr (.inr (.inr (.inl rfl)))
 ·rw [aw_cs2] at hs
  rw [show ([0, 0, 0] : List Nat).length = 3 from rfl, e2] at hs
  cases hs
 ·rw [aw_cs3] at hs
  rw [show ([0, 0, 0] : List Nat).length = 3 from rfl, e2] at hs
  cases hs
 ·rw [aw_cs4] at hs
  rw [show ([1, 0, 0] : List Nat).length = 3 from rfl, e4] at hs
  simp only [List.mem_cons, List.not_mem_nil, or_false] at hs
  subst hs
  exact .inr (.inr (.inr (.inr (.inr rfl))))
 ·rw [aw_cs5] at hs
  rw [show ([0, 0, 0] : List Nat).length = 3 from rfl, e2] at hs
  cases hs
def shortK (P : PW) : Bool := P.keyP.length ≤ 1000 && P.outP.length ≤ 1000
theorem shortK_le {P : PW} (h : shortK P = true) : P.keyP.length ≤ 140737488355328 ∧ P.outP.length ≤ 140737488355328 := by
 unfold shortK at h
 rw [Bool.and_eq_true, decide_eq_true_eq, decide_eq_true_eq] at h
 omega
theorem aw_short0 (A : Nat → Option Addr) (c : Nat → Nat) : shortK (aw0 A c) = true := by kernel_rfl
theorem aw_short1 (A : Nat → Option Addr) (c : Nat → Nat) : shortK ((aw0 A c).next (0, 0)) = true := by kernel_rfl
theorem aw_short2 (A : Nat → Option Addr) (c : Nat → Nat) : shortK (((aw0 A c).next (0, 0)).next (1, 0)) = true := by kernel_rfl
theorem aw_short3 (A : Nat → Option Addr) (c : Nat → Nat) : shortK (((aw0 A c).next (0, 0)).next (1, 1)) = true := by kernel_rfl
theorem aw_short4 (A : Nat → Option Addr) (c : Nat → Nat) : shortK ((aw0 A c).next (1, 0)) = true := by kernel_rfl
theorem aw_short5 (A : Nat → Option Addr) (c : Nat → Nat) : shortK (((aw0 A c).next (1, 0)).next (0, 0)) = true := by kernel_rfl
theorem aw_in (A : Nat → Option Addr) (c : Nat → Nat) (P : PW) (h : awOk A c P) : ∃ n, n ≤ 2 ∧ P.In 1 3 n ∧ shortK P = true := by
 have h0 := aw_in0 A c
 have ch : ∀ (P : PW) (t : Nat), P.ch t = P.cs.getD t 0 := fun P t => (cs_getD P t).symm
 have h1 : ((aw0 A c).next (0, 0)).In 1 3 1 := next_in h0 (by rw [ch, aw_cs0]; decide)
 have h4 : ((aw0 A c).next (1, 0)).In 1 3 1 := next_in h0 (by rw [ch, aw_cs0]; decide)
 rcases h with rfl | rfl | rfl | rfl | rfl | rfl
 ·exact ⟨0, by omega, h0, aw_short0 A c⟩
 ·exact ⟨1, by omega, h1, aw_short1 A c⟩
 ·exact ⟨2, by omega, next_in h1 (by rw [ch, aw_cs1]; decide), aw_short2 A c⟩
 ·exact ⟨2, by omega, next_in h1 (by rw [ch, aw_cs1]; decide), aw_short3 A c⟩
 ·exact ⟨1, by omega, h4, aw_short4 A c⟩
 ·exact ⟨2, by omega, next_in h4 (by rw [ch, aw_cs4]; decide), aw_short5 A c⟩
theorem next_ss (P : PW) (s : Nat × Nat) : (P.next s).ss = P.ss := by
 unfold PW.next
 split <;> rfl
theorem aw_ss (A : Nat → Option Addr) (c : Nat → Nat) (P : PW) (h : awOk A c P) : P.ss = List.replicate 3 false := by
 have h0 : (aw0 A c).ss = List.replicate 3 false := rfl
 rcases h with rfl | rfl | rfl | rfl | rfl | rfl <;> simp only [next_ss, h0]
theorem aw_fit (A : Nat → Option Addr) (c : Nat → Nat) (P : PW) (h : awOk A c P) : P.Fit ∧ (∀ r ∈ P.rows, r.l.length ≤ 100 ∧ r.i ≤ r.l.length) ∧ ∀ b ∈ P.ss, b = false := by
 obtain ⟨n, hn, hi, hs⟩ := aw_in A c P h
 obtain ⟨k1, k2⟩ := shortK_le hs
 refine ⟨hi.fit oM oM oM k1 k2, fun r hr => (hi.rows r hr).1, fun b hb => ?_⟩
 rw [aw_ss A c P h] at hb
 exact List.eq_of_mem_replicate hb
theorem aw_ok (A : Nat → Option Addr) (c : Nat → Nat) (B0 : Nat) (hB : 0 < B0) : ExplOK (rowsE (awOk A c) B0) B0 := rows_ok _ B0 hB (aw_fit A c) (aw_next A c)
def awF : DataW Unit := .map [(.string [49, 59, 32, 48, 59, 32, 48, 59], .lit (.bool true)), (.string [49, 59, 32, 48, 59, 32, 49, 59], .lit (.bool true))]
def isAw : Option (DataW Unit × DataW Unit × Bool) → Bool
 | some (S, .map [(.string k1, .lit (.bool true)), (.string k2, .lit (.bool true))], true) => Maps.size S == 5 && k1 == [49, 59, 32, 48, 59, 32, 48, 59] && k2 == [49, 59, 32, 48, 59, 32, 49, 59]
 | _ => false
theorem isAw_some {r : Option (DataW Unit × DataW Unit × Bool)} (h : isAw r = true) : ∃ S, r = some (S, awF, true) := by
 unfold isAw at h
 split at h
 ·rename_i S k1 k2
  rw [Bool.and_eq_true, Bool.and_eq_true, beq_iff_eq, beq_iff_eq, beq_iff_eq] at h
  obtain ⟨⟨_, rfl⟩, rfl⟩ := h
  exact ⟨S, rfl⟩
 ·cases h
theorem aw_all (A : Nat → Option Addr) (c : Nat → Nat) (B0 : Nat) : ∃ S, allP (rowsE (awOk A c) B0) 100 4 (aw0 A c) (.map []) (.map []) = some (S, awF, true) := isAw_some kR
theorem aw_sorted {ss : List (List UInt8)} (h : ss.Perm (strKeys awF)) : ss.mergeSort (fun x y => decide (x ≤ y)) = [[49, 59, 32, 48, 59, 32, 48, 59], [49, 59, 32, 48, 59, 32, 49, 59]] ∧ ss.length = 2 := by
 refine ⟨(mergeSort_of_perm h).trans (List.mergeSort_of_pairwise (l := [[49, 59, 32, 48, 59, 32, 48, 59], [49, 59, 32, 48, 59, 32, 49, 59]]) (List.pairwise_cons.2 ⟨fun b hb => by rw [List.mem_singleton.1 hb]; decide, List.pairwise_singleton _ _⟩)), ?_⟩
 rw [h.length_eq]
 rfl
def awStr : List ByteArray := [⟨#[49, 59, 32, 48, 59, 32, 48, 59]⟩, ⟨#[49, 59, 32, 48, 59, 32, 49, 59]⟩]
theorem aw_cells {W : World} {B g : Nat} (h : Rd W B 1 (some ⟨g, 0, none⟩) 2 ([[49, 59, 32, 48, 59, 32, 48, 59], [49, 59, 32, 48, 59, 32, 49, 59]].map encStr)) : ∀ j, j < awStr.length → W.cell? ⟨g, 0 + j, none⟩ = some (.string (awStr.getD j ByteArray.empty)) := by
 intro j hj
 obtain ⟨b, off, e, _, hc⟩ := h.2 dM
 cases e
 match j, hj with
 | 0, _ => exact hc 0 _ rfl
 | 1, _ => exact hc 1 _ rfl
 | j + 2, hj => exact absurd hj (by show ¬ (j + 2 < 2); omega)
theorem aw_cells2 (W : World) (t : TypeId) : ∀ j, j < awStr.length → (W.alloc (.cells #[.string ⟨#[49, 59, 32, 48, 59, 32, 48, 59]⟩, .string ⟨#[49, 59, 32, 48, 59, 32, 49, 59]⟩] t)).cell? ⟨W.heap.size, 0 + j, none⟩ = some (.string (awStr.getD j ByteArray.empty)) := by
 intro j hj
 have q := BoxC.made W #[.string ⟨#[49, 59, 32, 48, 59, 32, 48, 59]⟩, .string ⟨#[49, 59, 32, 48, 59, 32, 49, 59]⟩] t
 match j, hj with
 | 0, _ => exact q.1 0 _ rfl
 | 1, _ => exact q.1 1 _ rfl
 | j + 2, hj => exact absurd hj (by show ¬ (j + 2 < 2); omega)
theorem awake59_any (w : World) (ht : Tab w) (hg : 0 < w.heap.size) : Calls Tryz.prog 8 #[] w (Ret (.bool true) w) := by
 obtain ⟨w1, hw1⟩ : ∃ W : World, W = (((w.alloc (.cells #[.int .i64 0, .int .u32 0, .int .u32 0] 66)).alloc (.cells #[.int .i64 3, .int .i64 0, .int .i64 0, .int .u32 0, .int .u32 0, .int .i64 1, .int .u32 0, .int .u32 0] 68)).alloc (.cells #[.int .i64 1, .int .i64 0, .int .i64 0, .int .u32 0, .int .u32 0, .int .i64 0, .int .u32 0, .int .u32 0] 68)) := ⟨_, rfl⟩
 have hB1 : Below w.heap.size w w1 := by rw [hw1]; exact ab0
 have hs1 : w1.heap.size = w.heap.size + 1 + 1 + 1 := by rw [hw1]; simp
 have q0 := BoxC.made w #[.int .i64 0, .int .u32 0, .int .u32 0] 66
 have q1 := BoxC.made (w.alloc (.cells #[.int .i64 0, .int .u32 0, .int .u32 0] 66)) #[.int .i64 3, .int .i64 0, .int .i64 0, .int .u32 0, .int .u32 0, .int .i64 1, .int .u32 0, .int .u32 0] 68
 have q2 := BoxC.made ((w.alloc (.cells #[.int .i64 0, .int .u32 0, .int .u32 0] 66)).alloc (.cells #[.int .i64 3, .int .i64 0, .int .i64 0, .int .u32 0, .int .u32 0, .int .i64 1, .int .u32 0, .int .u32 0] 68)) #[.int .i64 1, .int .i64 0, .int .i64 0, .int .u32 0, .int .u32 0, .int .i64 0, .int .u32 0, .int .u32 0] 68
 have hx : (awX (fun k => if k = 0 then some ⟨w.heap.size + 1, 0, none⟩ else if k = 1 then some ⟨w.heap.size + 1 + 1, 0, none⟩ else none) (fun k => if k = 2 then 0 else 1)).R w1 w1.heap.size := by
  intro k hk
  have h3 : k = 0 ∨ k = 1 ∨ k = 2 := by omega
  rcases h3 with rfl | rfl | rfl
  ·refine ⟨rfl, fun _ => ⟨w.heap.size + 1, 0, rfl, by omega, fun j u hu => ?_⟩⟩
   have q := (q1.below (w' := w1) (by rw [hw1]; exact ab0)).1 j u hu
   simpa using q
  ·refine ⟨rfl, fun _ => ⟨w.heap.size + 1 + 1, 0, rfl, by omega, fun j u hu => ?_⟩⟩
   have q := (q2.below (w' := w1) (by rw [hw1]; exact ab0)).1 j u hu
   simpa using q
  ·exact Rd.nil _ _ _ _
 have hr : Rd w1 w1.heap.size 3 (some ⟨w.heap.size, 0, none⟩) 1 ([(⟨0, 0, 0⟩ : W3)].flatMap w3c) := by
  refine ⟨rfl, fun _ => ⟨w.heap.size, 0, rfl, by omega, fun j u hu => ?_⟩⟩
  have q := (q0.below (w' := w1) (by rw [hw1]; exact ab0)).1 j u hu
  rw [Nat.zero_add]
  exact q
 obtain ⟨A, hA⟩ : ∃ A : Nat → Option Addr, A = (fun k => if k = 0 then some ⟨w.heap.size + 1, 0, none⟩ else if k = 1 then some ⟨w.heap.size + 1 + 1, 0, none⟩ else none) := ⟨_, rfl⟩
 obtain ⟨c, hc⟩ : ∃ c : Nat → Nat, c = (fun k => if k = 2 then 0 else 1) := ⟨_, rfl⟩
 rw [← hA, ← hc] at hx
 have hwok : Calls Tryz.prog 7 #[.slice (some ⟨w.heap.size, 0, none⟩) 1 1, .agg #[.slice (some ⟨w.heap.size + 1, 0, none⟩) 1 1, .slice (some ⟨w.heap.size + 1 + 1, 0, none⟩) 1 1, .slice none 0 0]] w1 fun e w' => ∃ V : WorldV, e = .returned (.tuple #[(.agg #[.slice ((V).M).mem.pA ((V).M).mem.hs.length ((V).M).mem.pc, .slice ((V).M).mem.vA ((V).M).mem.vs.length ((V).M).mem.vc, .slice ((V).M).ln.fA ((V).M).ln.first.length ((V).M).ln.fc, .slice ((V).M).ln.lA ((V).M).ln.logs.length ((V).M).ln.lc, .map ((V).M).ln.asks, .slice ((V).M).sA ((V).M).steps.length ((V).M).sc, .int .i64 ((V).M).crashes, .slice (V).tA (V).ts.length (V).tc, .slice (V).sA (V).ss.length (V).sc]), .bool true]) ∧ Shows V (aw0 A c) ∧ V.R w' ∧ Below w1.heap.size w1 w' := by
  have q := world_ok (some ⟨w.heap.size, 0, none⟩) 1 1 [⟨0, 0, 0⟩] (awX A c) w1 rfl hr hx (fun k hk => by
   have h3 : k = 0 ∨ k = 1 ∨ k = 2 := by omega
   rcases h3 with rfl | rfl | rfl
   ·show (1 : Nat) ≤ 4; decide
   ·show (1 : Nat) ≤ 4; decide
   ·show (0 : Nat) ≤ 4; decide) (by show (2 : Nat) ≤ 7; decide) dM dM
  have e0 : (awX A c).sl 0 = .slice (some ⟨w.heap.size + 1, 0, none⟩) 1 1 := by rw [hA, hc]; rfl
  have e1 : (awX A c).sl 1 = .slice (some ⟨w.heap.size + 1 + 1, 0, none⟩) 1 1 := by rw [hA, hc]; rfl
  have e2 : (awX A c).sl 2 = .slice none 0 0 := by rw [hA, hc]; rfl
  rw [e0, e1, e2] at q
  exact q
 obtain ⟨S, hall⟩ := aw_all A c w1.heap.size
 have hall2 := fun (V : WorldV) (W : World) (hS : Shows V (aw0 A c)) (hR : V.R W) (hW : Below w1.heap.size w1 W) => ex_All (rowsE (awOk A c) w1.heap.size) w1.heap.size (aw_ok A c _ oM) 100 dM dM 4 (aw0 A c) S awF V W hall hR ⟨hS, by have := map_len hS.1.1; rw [this]; show (1 : Nat) ≤ 4096; decide⟩ ⟨.inl rfl, (fun r hr => by
   obtain ⟨k, hk, rfl⟩ := List.mem_map.1 (show r ∈ (List.range 3).map (fun k => (⟨A k, c k, (awX A c).l k, 0⟩ : RowP)) from hr)
   exact (hx k (List.mem_range.1 hk)).below hW), (ht.below hB1 hg).below hW oM, hW.size⟩ hW.size
 have Hwok := hide hwok
 have Hall := hide hall2
 have HB1 := hide hB1
 clear q0 q1 q2 hx hr hA hc hwok hall hall2 hB1 ht hg
 go_enter Tryz.func8, Tryz.ntmps8
 go_wp2_with (first
  | (rw [← hw1]; go_at_call 7; refine Hwok.out.mono ?_; rintro e w2 ⟨V, rfl, hS, hR, hb2⟩; have HS := hide hS; have HR := hide hR; have Hb2 := hide hb2; have hs2 := hb2.size; clear hS hR hb2)
  | (go_at_call 10; refine (Hall.out V _ HS.out (HR.out.below (Below.alloc (Below.refl _ _) (Nat.le_refl _) _)) (Hb2.out.trans (Below.alloc (Below.refl _ _) hs2 _))).mono ?_; rintro e w3 ⟨v, ss, rfl, hp, hrow, hb3⟩; have Hp := hide hp; have Hrow := hide hrow; have hs3 := hb3.size; (try simp at hs3); obtain ⟨hms, hsl⟩ := aw_sorted hp; rw [hms, hsl] at hrow; obtain ⟨g3, c3, rfl, hc3, hg3, hrd⟩ := own_some hrow dM; have Hrd := hide hrd; have Hb3 := hide hb3; clear hp hrow hb3 hms hsl hrd)
  | (go_at_call 11; refine (Tryz.slices_Equal_string g3 0 2 c3 w3.heap.size 0 2 2 awStr awStr _ (Nat.le_refl 2) (Nat.le_refl 2) dM dM (aw_cells (Hrd.out.below (Below.alloc (Below.refl _ _) (Nat.le_refl _) _))) (aw_cells2 w3 _)).mono ?_; rintro e w4 ⟨rfl, q, rfl⟩; rw [decide_eq_true (rfl : awStr.take 2 = awStr.take 2)]))
 have hs1' := HB1.out.size
 have hB2 : Below w.heap.size w w2 := HB1.out.trans (Hb2.out.mono hs1')
 have hB3 : Below w.heap.size w w3 := hB2.trans (((Below.alloc (Below.refl w2.heap.size w2) (Nat.le_refl _) _).trans (Hb3.out.mono sM)).mono hB2.size)
 have hs3' := hB3.size
 clear hw1
 go_ret
 exact ⟨rfl, ab0⟩
def rdB (o : Int) : Bool := o == 1 || o == 2 || o == 5
def wrB (o : Int) : Bool := o == 3 || o == 4 || o == 6
def skB (o : Int) : Bool := o == 0 || o == 8
theorem reads_any (a : AS) (w : World) : Calls Tryz.prog 50 #[(acV a)] w (Ret (.bool (rdB a.o)) w) := by
 try unfold acV
 unfold rdB
 obtain ⟨o, l, v1, r1, f1, v2, r2, f2⟩ := a
 simp only
 by_cases h1 : o = 1
 ·subst h1
  go_enter Tryz.func50, Tryz.ntmps50
  go_wp2_with fail
  go_ret
  exact ⟨by simp, ab0⟩
 ·by_cases h2 : o = 2
  ·subst h2
   go_enter Tryz.func50, Tryz.ntmps50
   go_wp2_with fail
   go_ret
   exact ⟨by simp, ab0⟩
  ·go_enter Tryz.func50, Tryz.ntmps50
   go_wp2_with fail
   go_ret
   refine ⟨?_, ab0⟩
   simp [h1, h2]
structure TwoA (b : Nat) (x y : AS) (w : World) : Prop where
 bx : BoxC b (actc x) w
 yb : BoxC (b + 1) (actc y) w
 s : BoxC (b + 1 + 1) (actc x ++ actc y) w
theorem TwoA.below {b : Nat} {x y : AS} {w w' : World} (h : TwoA b x y w) (hb : Below w.heap.size w w') : TwoA b x y w' := ⟨h.bx.below hb, h.yb.below hb, h.s.below hb⟩
def indT (x y : AS) : Bool := if skB x.o || skB y.o then true else if !wrB x.o && !wrB y.o then true else if rdB x.o || rdB y.o then x.l != y.l else x.l.tdiv 8 != y.l.tdiv 8
theorem wrap_tdiv (z : Int) (h : -9223372036854775808 ≤ z ∧ z ≤ 9223372036854775807) : IntKind.i64.wrap (z.tdiv 8) = z.tdiv 8 := by
 refine IntWalk.i64_in _ ?_
 rcases Int.le_total 0 z with h0 | h0
 ·rw [Int.tdiv_eq_ediv_of_nonneg h0]
  omega
 ·obtain ⟨n, rfl⟩ : ∃ n : Int, z = -n := ⟨-z, by omega⟩
  rw [Int.neg_tdiv, Int.tdiv_eq_ediv_of_nonneg oM]
  omega
theorem ind_all (x y : AS) (w : World) (hx : -9223372036854775808 ≤ x.l ∧ x.l ≤ 9223372036854775807) (hy : -9223372036854775808 ≤ y.l ∧ y.l ≤ 9223372036854775807) : Calls Tryz.prog 19 #[(acV x), (acV y)] w (Ret (.bool (indT x y)) w) := by
 have dx := wrap_tdiv x.l hx
 have dy := wrap_tdiv y.l hy
 clear hx hy
 have hcx := fun W => mach_changes ⟨x.o, x.l, ⟨x.v, x.r, x.f⟩, ⟨x.v2, x.r2, x.f2⟩⟩ W
 have hcy := fun W => mach_changes ⟨y.o, y.l, ⟨y.v, y.r, y.f⟩, ⟨y.v2, y.r2, y.f2⟩⟩ W
 have hrx := fun W => reads_any x W
 have hry := fun W => reads_any y W
 have ew : ∀ o : Int, (decide (o = 3) || decide (o = 4) || decide (o = 6)) = wrB o := fun o => rfl
 simp only [ew] at hcx hcy
 unfold indT skB
 obtain ⟨wx, hwx⟩ : ∃ b, b = wrB x.o := ⟨_, rfl⟩
 obtain ⟨wy, hwy⟩ : ∃ b, b = wrB y.o := ⟨_, rfl⟩
 obtain ⟨rx, hrx'⟩ : ∃ b, b = rdB x.o := ⟨_, rfl⟩
 obtain ⟨ry, hry'⟩ : ∃ b, b = rdB y.o := ⟨_, rfl⟩
 rw [← hwx, ← hwy, ← hrx', ← hry']
 rw [← hwx] at hcx
 rw [← hwy] at hcy
 rw [← hrx'] at hrx
 rw [← hry'] at hry
 clear hwx hwy hrx' hry' ew
 have Hcx := hide hcx
 have Hcy := hide hcy
 have Hrx := hide hrx
 have Hry := hide hry
 clear hcx hcy hrx hry
 obtain ⟨r, hr⟩ : ∃ r, r = (if (x.o == 0 || x.o == 8) || (y.o == 0 || y.o == 8) then true else if !wx && !wy then true else if rx || ry then x.l != y.l else x.l.tdiv 8 != y.l.tdiv 8) := ⟨_, rfl⟩
 rw [← hr]
 have Hr := hide hr
 clear hr
 go_enter Tryz.func19, Tryz.ntmps19
 go_wp2_with fail
 obtain ⟨w1, hw1⟩ : ∃ W : World, W = ((w.alloc (.cells #[.int .i64 (x).o, .int .i64 (x).l, .int .i64 (x).v, .int .u32 (x).r, .int .u32 (x).f, .int .i64 (x).v2, .int .u32 (x).r2, .int .u32 (x).f2] 68)).alloc (.cells #[.int .i64 (y).o, .int .i64 (y).l, .int .i64 (y).v, .int .u32 (y).r, .int .u32 (y).f, .int .i64 (y).v2, .int .u32 (y).r2, .int .u32 (y).f2] 68)).alloc (.cells #[.int .i64 (x).o, .int .i64 (x).l, .int .i64 (x).v, .int .u32 (x).r, .int .u32 (x).f, .int .i64 (x).v2, .int .u32 (x).r2, .int .u32 (x).f2, .int .i64 (y).o, .int .i64 (y).l, .int .i64 (y).v, .int .u32 (y).r, .int .u32 (y).f, .int .i64 (y).v2, .int .u32 (y).r2, .int .u32 (y).f2] 68) := ⟨_, rfl⟩
 have hB1 : Below w.heap.size w w1 := by rw [hw1]; exact ab0
 have hs1 : w1.heap.size = w.heap.size + 1 + 1 + 1 := by rw [hw1]; simp
 have hT1 : TwoA w.heap.size x y w1 := by
  refine ⟨?_, ?_, ?_⟩
  ·rw [hw1]
   exact (BoxC.made w #[.int .i64 (x).o, .int .i64 (x).l, .int .i64 (x).v, .int .u32 (x).r, .int .u32 (x).f, .int .i64 (x).v2, .int .u32 (x).r2, .int .u32 (x).f2] 68).below ab0
  ·rw [hw1]
   have q := (BoxC.made (w.alloc (.cells #[.int .i64 (x).o, .int .i64 (x).l, .int .i64 (x).v, .int .u32 (x).r, .int .u32 (x).f, .int .i64 (x).v2, .int .u32 (x).r2, .int .u32 (x).f2] 68)) #[.int .i64 (y).o, .int .i64 (y).l, .int .i64 (y).v, .int .u32 (y).r, .int .u32 (y).f, .int .i64 (y).v2, .int .u32 (y).r2, .int .u32 (y).f2] 68).below (w' := ((w.alloc (.cells #[.int .i64 (x).o, .int .i64 (x).l, .int .i64 (x).v, .int .u32 (x).r, .int .u32 (x).f, .int .i64 (x).v2, .int .u32 (x).r2, .int .u32 (x).f2] 68)).alloc (.cells #[.int .i64 (y).o, .int .i64 (y).l, .int .i64 (y).v, .int .u32 (y).r, .int .u32 (y).f, .int .i64 (y).v2, .int .u32 (y).r2, .int .u32 (y).f2] 68)).alloc (.cells #[.int .i64 (x).o, .int .i64 (x).l, .int .i64 (x).v, .int .u32 (x).r, .int .u32 (x).f, .int .i64 (x).v2, .int .u32 (x).r2, .int .u32 (x).f2, .int .i64 (y).o, .int .i64 (y).l, .int .i64 (y).v, .int .u32 (y).r, .int .u32 (y).f, .int .i64 (y).v2, .int .u32 (y).r2, .int .u32 (y).f2] 68)) ab0
   have e : (w.alloc (.cells #[.int .i64 (x).o, .int .i64 (x).l, .int .i64 (x).v, .int .u32 (x).r, .int .u32 (x).f, .int .i64 (x).v2, .int .u32 (x).r2, .int .u32 (x).f2] 68)).heap.size = w.heap.size + 1 := by simp
   rw [e] at q
   exact q
  ·rw [hw1]
   have q := BoxC.made ((w.alloc (.cells #[.int .i64 (x).o, .int .i64 (x).l, .int .i64 (x).v, .int .u32 (x).r, .int .u32 (x).f, .int .i64 (x).v2, .int .u32 (x).r2, .int .u32 (x).f2] 68)).alloc (.cells #[.int .i64 (y).o, .int .i64 (y).l, .int .i64 (y).v, .int .u32 (y).r, .int .u32 (y).f, .int .i64 (y).v2, .int .u32 (y).r2, .int .u32 (y).f2] 68)) #[.int .i64 (x).o, .int .i64 (x).l, .int .i64 (x).v, .int .u32 (x).r, .int .u32 (x).f, .int .i64 (x).v2, .int .u32 (x).r2, .int .u32 (x).f2, .int .i64 (y).o, .int .i64 (y).l, .int .i64 (y).v, .int .u32 (y).r, .int .u32 (y).f, .int .i64 (y).v2, .int .u32 (y).r2, .int .u32 (y).f2] 68
   have e : ((w.alloc (.cells #[.int .i64 (x).o, .int .i64 (x).l, .int .i64 (x).v, .int .u32 (x).r, .int .u32 (x).f, .int .i64 (x).v2, .int .u32 (x).r2, .int .u32 (x).f2] 68)).alloc (.cells #[.int .i64 (y).o, .int .i64 (y).l, .int .i64 (y).v, .int .u32 (y).r, .int .u32 (y).f, .int .i64 (y).v2, .int .u32 (y).r2, .int .u32 (y).f2] 68)).heap.size = w.heap.size + 1 + 1 := by simp
   rw [e] at q
   exact q
 have HT1 := hide hT1
 rw [← hw1]
 clear hw1 hT1
 go_loopw [11] (fun i wr => ∃ (k : Nat) (z : Int), i = .int .i64 z ∧ z = k ∧ k ≤ 2 ∧ Hid (1 ≤ k → (x.o == 0) = false ∧ (x.o == 8) = false) ∧ Hid (2 ≤ k → (y.o == 0) = false ∧ (y.o == 8) = false) ∧ Hid (Below w1.heap.size w1 wr)) (fun i _ => 2 - (intOf i).toNat)
 case atStart => exact ⟨0, 0, rfl, rfl, by omega, hide (fun h => absurd h oM), hide (fun h => absurd h oM), hide (Below.refl _ _)⟩
 case round =>
  obtain ⟨k, z, rfl, hz, hk, Hk1, Hk2, HB⟩ := hrel
  have hsr := HB.out.size
  have hT : TwoA w.heap.size x y wr := HT1.out.below HB.out
  have hBw : Below w.heap.size w wr := hB1.trans (HB.out.mono hB1.size)
  have h3 : k = 0 ∨ k = 1 ∨ k = 2 := by omega
  rcases h3 with rfl | rfl | rfl
  ·obtain rfl : z = 0 := by omega
   have hz0 : w.heap.size < wr.heap.size := by omega
   have hz1 : w.heap.size + 1 < wr.heap.size := by omega
   have hz2 : w.heap.size + 1 + 1 < wr.heap.size := by omega
   have c0 := hT.s.at (j := 0) rfl
   have c1 := hT.s.at (j := 1) rfl
   have c2 := hT.s.at (j := 2) rfl
   have c3 := hT.s.at (j := 3) rfl
   have c4 := hT.s.at (j := 4) rfl
   have c5 := hT.s.at (j := 5) rfl
   have c6 := hT.s.at (j := 6) rfl
   have c7 := hT.s.at (j := 7) rfl
   clear hz hk hT
   by_cases h0 : x.o = 0
   ·have hrt : r = true := by rw [Hr.out, h0]; simp
    subst hrt
    clear Hr
    rw [h0] at c0
    go_wp2_with fail
    all_goals go_ret
    all_goals exact ⟨rfl, ab0⟩
   have b0 : (x.o == 0) = false := by simpa using h0
   clear h0
   by_cases h8 : x.o = 8
   ·have hrt : r = true := by rw [Hr.out, h8]; simp
    subst hrt
    clear Hr
    rw [h8] at c0
    go_wp2_with fail
    all_goals go_ret
    all_goals exact ⟨rfl, ab0⟩
   have b8 : (x.o == 8) = false := by simpa using h8
   clear h8
   have hk1' : Hid (1 ≤ 1 → (x.o == 0) = false ∧ (x.o == 8) = false) := hide (fun _ => ⟨b0, b8⟩)
   have hk2' : Hid (2 ≤ 1 → (y.o == 0) = false ∧ (y.o == 8) = false) := hide (fun h => absurd h oM)
   have HBw := hide hBw
   clear Hk1 Hk2 hBw
   go_wp2_with fail
   all_goals first
    | exact ⟨⟨1, 1, by go_num, rfl, by omega, hk1', hk2', hide (HB.out.trans (ab0))⟩, by simp [intOf]⟩
    | ((repeat apply Exists.intro); exact ⟨⟨1, 1, by go_num, rfl, by omega, hk1', hk2', hide (HB.out.trans (ab0))⟩, by simp [intOf]⟩)
  ·obtain rfl : z = 1 := by omega
   have hz0 : w.heap.size < wr.heap.size := by omega
   have hz1 : w.heap.size + 1 < wr.heap.size := by omega
   have hz2 : w.heap.size + 1 + 1 < wr.heap.size := by omega
   have c0 := hT.s.at (j := 8) rfl
   have c1 := hT.s.at (j := 9) rfl
   have c2 := hT.s.at (j := 10) rfl
   have c3 := hT.s.at (j := 11) rfl
   have c4 := hT.s.at (j := 12) rfl
   have c5 := hT.s.at (j := 13) rfl
   have c6 := hT.s.at (j := 14) rfl
   have c7 := hT.s.at (j := 15) rfl
   clear hz hk hT
   by_cases h0 : y.o = 0
   ·have hrt : r = true := by rw [Hr.out, h0]; simp
    subst hrt
    clear Hr
    rw [h0] at c0
    go_wp2_with fail
    all_goals go_ret
    all_goals exact ⟨rfl, ab0⟩
   have b0 : (y.o == 0) = false := by simpa using h0
   clear h0
   by_cases h8 : y.o = 8
   ·have hrt : r = true := by rw [Hr.out, h8]; simp
    subst hrt
    clear Hr
    rw [h8] at c0
    go_wp2_with fail
    all_goals go_ret
    all_goals exact ⟨rfl, ab0⟩
   have b8 : (y.o == 8) = false := by simpa using h8
   clear h8
   have hk1' : Hid (1 ≤ 2 → (x.o == 0) = false ∧ (x.o == 8) = false) := hide (fun _ => Hk1.out oM)
   have hk2' : Hid (2 ≤ 2 → (y.o == 0) = false ∧ (y.o == 8) = false) := hide (fun _ => ⟨b0, b8⟩)
   have HBw := hide hBw
   clear Hk1 Hk2 hBw
   go_wp2_with fail
   all_goals first
    | exact ⟨⟨2, 2, by go_num, rfl, by omega, hk1', hk2', hide (HB.out.trans (ab0))⟩, by simp [intOf]⟩
    | ((repeat apply Exists.intro); exact ⟨⟨2, 2, by go_num, rfl, by omega, hk1', hk2', hide (HB.out.trans (ab0))⟩, by simp [intOf]⟩)
  ·obtain rfl : z = 2 := by omega
   obtain ⟨b1, b2⟩ := Hk1.out oM
   obtain ⟨b3, b4⟩ := Hk2.out oM
   rw [b1, b2, b3, b4] at Hr
   have hz0 : w.heap.size < wr.heap.size := by omega
   have hz1 : w.heap.size + 1 < wr.heap.size := by omega
   have hz2 : w.heap.size + 1 + 1 < wr.heap.size := by omega
   have c0 := hT.bx.at (j := 0) rfl
   have d0 := hT.yb.at (j := 0) rfl
   have c1 := hT.bx.at (j := 1) rfl
   have d1 := hT.yb.at (j := 1) rfl
   have c2 := hT.bx.at (j := 2) rfl
   have d2 := hT.yb.at (j := 2) rfl
   have c3 := hT.bx.at (j := 3) rfl
   have d3 := hT.yb.at (j := 3) rfl
   have c4 := hT.bx.at (j := 4) rfl
   have d4 := hT.yb.at (j := 4) rfl
   have c5 := hT.bx.at (j := 5) rfl
   have d5 := hT.yb.at (j := 5) rfl
   have c6 := hT.bx.at (j := 6) rfl
   have d6 := hT.yb.at (j := 6) rfl
   have c7 := hT.bx.at (j := 7) rfl
   have d7 := hT.yb.at (j := 7) rfl
   clear hz hk Hk1 Hk2 b1 b2 b3 b4 hT
   cases wx
   all_goals cases wy
   all_goals cases rx
   all_goals cases ry
   all_goals go_wp2_with (first
    | (go_at_call 49; with_reducible refine (Hcx.out _).mono ?_; rintro e w3 ⟨rfl, hb3⟩; obtain ⟨hcc3, hff3, hs3⟩ := bC hb3; (try simp at hs3); have hz30 : w.heap.size < w3.heap.size := oM; have hz31 : w.heap.size + 1 < w3.heap.size := oM)
    | (go_at_call 49; with_reducible refine (Hcy.out _).mono ?_; rintro e w4 ⟨rfl, hb4⟩; obtain ⟨hcc4, hff4, hs4⟩ := bC hb4; (try simp at hs4); have hz40 : w.heap.size < w4.heap.size := oM; have hz41 : w.heap.size + 1 < w4.heap.size := oM)
    | (go_at_call 50; with_reducible refine (Hrx.out _).mono ?_; rintro e w5 ⟨rfl, hb5⟩; obtain ⟨hcc5, hff5, hs5⟩ := bC hb5; (try simp at hs5); have hz50 : w.heap.size < w5.heap.size := oM; have hz51 : w.heap.size + 1 < w5.heap.size := oM)
    | (go_at_call 50; with_reducible refine (Hry.out _).mono ?_; rintro e w6 ⟨rfl, hb6⟩; obtain ⟨hcc6, hff6, hs6⟩ := bC hb6; (try simp at hs6); have hz60 : w.heap.size < w6.heap.size := oM; have hz61 : w.heap.size + 1 < w6.heap.size := oM))
   all_goals go_ret
   all_goals exact ⟨by rw [Hr.out]; rfl, ab0⟩
end Go.Proofs.YtnnmenmifphadaaGreatDoor
