/- Worlds of equal keys are alike, and stay so behind equal steps. -/
import Derived.Test.YtnnmenmifphadaaGreatDoorT20
import Derived.Test.YtnnmenmifphadaaGreatDoorT32
import Derived.Test.YtnnmenmifphadaaGreatDoorT43
import Derived.Test.YtnnmenmifphadaaGreatDoorT46
import Derived.Test.YtnnmenmifphadaaGreatDoorT47
set_option linter.unusedSimpArgs false
set_option linter.unusedVariables false
set_option maxRecDepth 100000
set_option maxHeartbeats 40000000
namespace Go.Proofs.YtnnmenmifphadaaGreatDoor
open Go.RowKit Go.Maps Go.Sort
structure MSim (q q' : MW) : Prop where
 hs : q.hs = q'.hs
 vs : q.vs = q'.vs
 ll : q.logs.length = q'.logs.length
 lg : ∀ (n : Nat) (g g' : Lg), q.logs[n]? = some g → q'.logs[n]? = some g' → (g.1 = g'.1 ∧ g.2.length = g'.2.length) ∧ ∀ j, j < q.vs.length → max g.1 (q.ak j (n : Int)) = max g'.1 (q'.ak j (n : Int))
structure PW.Of (L : Nat) (rs : List RowP) (P : PW) : Prop where
 rows : P.rows = List.zipWith (fun (r : RowP) (g : List GS) => (⟨r.A, r.cap, r.l, g.length⟩ : RowP)) rs P.gots
 hv : ∀ l ∈ P.q.hs, ∀ p ∈ l, ∀ z, (z < 0 ∨ (L : Int) ≤ z) → p.2.2 z = 0
 vv : ∀ f ∈ P.q.vs, ∀ z, (z < 0 ∨ (L : Int) ≤ z) → f z = 0
theorem pairs_inj {f g : Int → Int} : ∀ {A B : List Int}, A.flatMap (fun z => numsT [z, f z]) = B.flatMap (fun z => numsT [z, g z]) → A = B ∧ ∀ z ∈ A, f z = g z
 | [], [], _ => ⟨rfl, fun z h => by cases h⟩
 | [], b :: B, h => by
  exfalso
  have := congrArg List.length h
  simp [numsT] at this
 | a :: A, [], h => by
  exfalso
  have := congrArg List.length h
  simp [numsT] at this
 | a :: A, b :: B, h => by
  rw [List.flatMap_cons, List.flatMap_cons] at h
  obtain ⟨h1, h2⟩ := nums_inj (by rfl) h
  simp only [List.cons.injEq, and_true] at h1
  obtain ⟨rfl, h3⟩ := h1
  obtain ⟨h4, h5⟩ := pairs_inj h2
  exact ⟨by rw [h4], fun z hz => by
   rcases List.mem_cons.1 hz with rfl | hz
   ·exact h3
   ·exact h5 z hz⟩
theorem view_inj {L : Nat} {f g : Int → Int} (hf : ∀ z, (z < 0 ∨ (L : Int) ≤ z) → f z = 0) (hg : ∀ z, (z < 0 ∨ (L : Int) ≤ z) → g z = 0) (h : (locsF L f).flatMap (fun z => numsT [z, f z]) = (locsF L g).flatMap (fun z => numsT [z, g z])) : f = g := by
 obtain ⟨h1, h2⟩ := pairs_inj h
 funext z
 by_cases hz : z < 0 ∨ (L : Int) ≤ z
 ·rw [hf z hz, hg z hz]
 ·by_cases h0 : f z = 0
  ·by_cases h3 : g z = 0
   ·rw [h0, h3]
   ·have : z ∈ locsF L f := by rw [h1]; exact locsF_mem.2 ⟨by omega, h3⟩
    exact h2 z this
  ·exact h2 z (locsF_mem.2 ⟨by omega, h0⟩)
theorem body_inj {L : Nat} {p p' : Msg} (hp : ∀ z, (z < 0 ∨ (L : Int) ≤ z) → p.2.2 z = 0) (hp' : ∀ z, (z < 0 ∨ (L : Int) ≤ z) → p'.2.2 z = 0) (h : bodyM L p = bodyM L p') : p = p' := by
 unfold bodyM rawT at h
 obtain ⟨h1, h2⟩ := nums_inj (by rfl) h
 obtain ⟨h3, h4⟩ := nums_inj (by rfl) h2
 obtain ⟨⟨v, r, f⟩, t, u⟩ := p
 obtain ⟨⟨v', r', f'⟩, t', u'⟩ := p'
 simp only [List.cons.injEq, and_true] at h1 h3
 obtain ⟨rfl, rfl, rfl⟩ := h1
 subst h3
 have e : u = u' := view_inj hp hp' h4
 rw [e]
theorem map_inj {α β : Type} {f : α → β} : ∀ {A B : List α}, (∀ a ∈ A, ∀ b ∈ B, f a = f b → a = b) → A.map f = B.map f → A = B
 | [], [], _, _ => rfl
 | [], _ :: _, _, h => by simp at h
 | _ :: _, [], _, h => by simp at h
 | a :: A, b :: B, hi, h => by
  rw [List.map_cons, List.map_cons] at h
  injection h with h1 h2
  rw [hi a List.mem_cons_self b List.mem_cons_self h1, map_inj (fun x hx y hy => hi x (List.mem_cons_of_mem _ hx) y (List.mem_cons_of_mem _ hy)) h2]
theorem hist_inj {L : Nat} {l l' : List Msg} (hl : ∀ p ∈ l, ∀ z, (z < 0 ∨ (L : Int) ≤ z) → p.2.2 z = 0) (hl' : ∀ p ∈ l', ∀ z, (z < 0 ∨ (L : Int) ≤ z) → p.2.2 z = 0) (h : l.flatMap (msgQ L) = l'.flatMap (msgQ L)) : l = l' := by
 rw [hist_body, hist_body] at h
 obtain ⟨h8, _⟩ := ends_inj (X := l.map (bodyM L)) (Y := l'.map (bodyM L)) (a := []) (b := []) (fun x hx => by obtain ⟨p, _, rfl⟩ := List.mem_map.1 hx; exact body_no dM no59 _ p) (fun x hx => by obtain ⟨p, _, rfl⟩ := List.mem_map.1 hx; exact body_no dM no59 _ p) sM sM (by rw [h])
 exact map_inj (fun a ha b hb e => body_inj (hl a ha) (hl' b hb) e) h8
theorem views_inj {L : Nat} {A B : List (Int → Int)} (hA : ∀ f ∈ A, ∀ z, (z < 0 ∨ (L : Int) ≤ z) → f z = 0) (hB : ∀ f ∈ B, ∀ z, (z < 0 ∨ (L : Int) ≤ z) → f z = 0) (h : A.flatMap (viewsT L) = B.flatMap (viewsT L)) : A = B := by
 have e : ∀ C : List (Int → Int), C.flatMap (viewsT L) = (C.map (fun f => (locsF L f).flatMap (fun z => numsT [z, f z]))).flatMap (fun x => x ++ [59]) := fun C => by rw [List.flatMap_map]; rfl
 rw [e, e] at h
 have no : ∀ C : List (Int → Int), ∀ x ∈ C.map (fun f => (locsF L f).flatMap (fun z => numsT [z, f z])), (59 : UInt8) ∉ x := fun C x hx hm => by
  obtain ⟨f, _, rfl⟩ := List.mem_map.1 hx
  obtain ⟨z, _, hz⟩ := List.mem_flatMap.1 hm
  exact nums_no dM no59 _ hz
 obtain ⟨h8, _⟩ := ends_inj (a := []) (b := []) (no A) (no B) sM sM (by rw [h])
 exact map_inj (fun a ha b hb e => view_inj (hA a ha) (hB b hb) e) h8
theorem blocks_inj {α : Type} {m : Nat} {f g : α → List Int} : ∀ {A B : List α}, A.length = B.length → (∀ a, (f a).length = m) → (∀ a, (g a).length = m) → A.flatMap f = B.flatMap g → ∀ (i : Nat) (a b : α), A[i]? = some a → B[i]? = some b → f a = g b
 | [], _, _, _, _, _, i, a, b, ha, _ => by simp at ha
 | _ :: _, [], hl, _, _, _, _, _, _, _, _ => by simp at hl
 | x :: A, y :: B, hl, hf, hg, h, i, a, b, ha, hb => by
  rw [List.flatMap_cons, List.flatMap_cons] at h
  obtain ⟨h1, h2⟩ := List.append_inj h (by rw [hf, hg])
  cases i with
  | zero =>
   simp only [List.getElem?_cons_zero, Option.some.injEq] at ha hb
   subst ha hb
   exact h1
  | succ i => exact blocks_inj (by simpa using hl) hf hg h2 i a b (by simpa using ha) (by simpa using hb)
def lineN (th : Nat) (ak : Nat → Int → Int) (p : Lg × Nat) : List Int := [p.1.1, (p.1.2.length : Int)] ++ (List.range th).map (fun j => max p.1.1 (ak j (p.2 : Int)))
theorem numsT_append (a b : List Int) : numsT (a ++ b) = numsT a ++ numsT b := by simp [numsT]
theorem numsT_flat {α : Type} (f : α → List Int) : ∀ l : List α, numsT (l.flatMap f) = l.flatMap (fun x => numsT (f x))
 | [] => rfl
 | x :: l => by rw [List.flatMap_cons, List.flatMap_cons, numsT_append, numsT_flat f l]
theorem lineQ_num (th : Nat) (ak : Nat → Int → Int) (p : Lg × Nat) : lineQ th ak p = numsT (lineN th ak p) := by
 unfold lineQ lineN
 rw [numsT_append]
 congr 1
 rw [← List.flatMap_singleton' (l := (List.range th).map (fun j => max p.1.1 (ak j (p.2 : Int)))), numsT_flat, List.flatMap_map]
 rfl
theorem lnT_num (q : MW) : q.lnT = numsT (q.logs.zipIdx.flatMap (lineN q.vs.length q.ak)) := by
 unfold MW.lnT
 rw [numsT_flat]
 congr 1
 funext p
 exact lineQ_num _ _ p
theorem lineN_len (th : Nat) (ak : Nat → Int → Int) (p : Lg × Nat) : (lineN th ak p).length = th + 2 := by
 unfold lineN
 rw [List.length_append, List.length_map, List.length_range]
 simp only [List.length_cons, List.length_nil]
 omega
theorem flat_len {α : Type} {m : Nat} {f : α → List Int} (hf : ∀ a, (f a).length = m) : ∀ l : List α, (l.flatMap f).length = l.length * m
 | [] => by simp
 | x :: l => by rw [List.flatMap_cons, List.length_append, hf, flat_len hf l, List.length_cons, Nat.succ_mul, Nat.add_comm]
theorem MSim.texts {q q' : MW} (h : MSim q q') : q.memT = q'.memT ∧ q.lnT = q'.lnT := by
 refine ⟨by unfold MW.memT; rw [h.hs, h.vs], ?_⟩
 unfold MW.lnT
 refine flat_at (by rw [List.length_zipIdx, List.length_zipIdx, h.ll]) (fun i a b ha hb => ?_)
 rw [List.getElem?_zipIdx] at ha hb
 obtain ⟨g, hg, rfl⟩ := Option.map_eq_some_iff.1 ha
 obtain ⟨g', hg', rfl⟩ := Option.map_eq_some_iff.1 hb
 obtain ⟨⟨h1, h2⟩, h3⟩ := h.lg i g g' hg hg'
 rw [lineQ_num, lineQ_num]
 congr 1
 unfold lineN
 rw [show (g, 0 + i).1.1 = g.1 from rfl, show (g', 0 + i).1.1 = g'.1 from rfl, show (g, 0 + i).1.2 = g.2 from rfl, show (g', 0 + i).1.2 = g'.2 from rfl, h2, ← h.vs]
 congr 1
 ·rw [h1]
 ·refine List.map_congr_left (fun j hj => ?_)
  have := h3 j (List.mem_range.1 hj)
  simpa using this
structure PSim (P P' : PW) : Prop where
 q : MSim P.q P'.q
 rows : P.rows = P'.rows
 gots : P.gots = P'.gots
 ss : P.ss = P'.ss
theorem PSim.key {P P' : PW} (h : PSim P P') : P.keyP = P'.keyP := by
 obtain ⟨h1, h2⟩ := h.q.texts
 unfold PW.keyP
 rw [h1, h2, h.rows, h.gots, h.ss]
theorem key_sim {L n n' : Nat} {rs : List RowP} {P P' : PW} (h : P.In L 3 n) (h' : P'.In L 3 n') (ho : P.Of L rs) (ho' : P'.Of L rs) (hk : P.keyP = P'.keyP) : PSim P P' := by
 obtain ⟨_, k2, k3⟩ := key_tells h h' hk
 rw [key_form, key_form] at hk
 obtain ⟨h1, h2⟩ := sep_split (memT_no _) (memT_no _) hk
 obtain ⟨h2, _⟩ := heads_inj (fun x hx => by obtain ⟨p, _, rfl⟩ := List.mem_map.1 hx; exact seg_no p) (fun x hx => by obtain ⟨p, _, rfl⟩ := List.mem_map.1 hx; exact seg_no p) (lnT_no _) (lnT_no _) h2
 have e1 := h.q.hs
 have e1' := h'.q.hs
 have hvs : P.q.vs.length = P'.q.vs.length := by rw [h.q.vs, h'.q.vs]
 have hll : P.q.logs.length = P'.q.logs.length := by rw [h.q.lg, h'.q.lg]
 unfold MW.memT at h1
 rw [e1, e1'] at h1
 have hX : ∀ q : MW, q.hs.flatMap (fun l => l.flatMap (msgQ L) ++ [47]) = (q.hs.map (fun l => l.flatMap (msgQ L))).flatMap (fun x => x ++ [47]) := fun q => by rw [List.flatMap_map]
 rw [hX, hX] at h1
 have nv : ∀ q : MW, (47 : UInt8) ∉ q.vs.flatMap (viewsT L) := fun q hm => by
  obtain ⟨f, _, hf⟩ := List.mem_flatMap.1 hm
  exact views_no dM dM no47 _ f hf
 obtain ⟨h5, h6⟩ := ends_inj (fun x hx => by obtain ⟨l, _, rfl⟩ := List.mem_map.1 hx; exact hist_no dM dM no47 _ l) (fun x hx => by obtain ⟨l, _, rfl⟩ := List.mem_map.1 hx; exact hist_no dM dM no47 _ l) (nv _) (nv _) h1
 have hhs : P.q.hs = P'.q.hs := map_inj (fun a ha b hb e => hist_inj (ho.hv a ha) (ho'.hv b hb) e) h5
 have hvv : P.q.vs = P'.q.vs := views_inj ho.vv ho'.vv h6
 refine ⟨⟨hhs, hvv, hll, fun n g g' hg hg' => ?_⟩, by rw [ho.rows, ho'.rows, k2], k2, k3⟩
 rw [lnT_num, lnT_num] at h2
 have hlen : (P.q.logs.zipIdx.flatMap (lineN P.q.vs.length P.q.ak)).length = (P'.q.logs.zipIdx.flatMap (lineN P'.q.vs.length P'.q.ak)).length := by
  rw [flat_len (lineN_len _ _), flat_len (lineN_len _ _), List.length_zipIdx, List.length_zipIdx, hll, hvs]
 obtain ⟨h3, _⟩ := nums_inj (a := []) (b := []) hlen (by rw [h2])
 have h4 := blocks_inj (m := P.q.vs.length + 2) (by rw [List.length_zipIdx, List.length_zipIdx, hll]) (lineN_len _ _) (fun a => by rw [lineN_len, hvs]) h3 n (g, n) (g', n) (by rw [List.getElem?_zipIdx, hg]; simp) (by rw [List.getElem?_zipIdx, hg']; simp)
 unfold lineN at h4
 obtain ⟨h7, h8⟩ := List.append_inj h4 (by rfl)
 simp only [List.cons.injEq, and_true] at h7
 refine ⟨⟨h7.1, by omega⟩, fun j hj => ?_⟩
 have h9 := congrArg (fun z => z[j]?) h8
 simp only [List.getElem?_map] at h9
 rw [List.getElem?_range hj, List.getElem?_range oM] at h9
 simpa using h9
theorem effL_alike (L : Nat) (l : List Msg) (f : Int → Int) (nl : Nat) (t : Nat) (a : ActV) (c : Int) : (∃ e, ∀ g, effL L l f nl g t a c = e) ∨ ∀ g, effL L l f nl g t a c = (.sync g, ⟨0, 0, 0⟩, true) := by
 by_cases hg : goodB L a.op a.at_ = false
 ·exact .inl ⟨_, fun g => if_pos hg⟩
 by_cases h0 : a.op = 0
 ·exact .inl ⟨_, fun g => (if_neg hg).trans (if_pos h0)⟩
 by_cases h1 : a.op = 1
 ·exact .inl ⟨_, fun g => (if_neg hg).trans ((if_neg h0).trans (if_pos h1))⟩
 by_cases h2 : a.op = 2
 ·exact .inl ⟨_, fun g => (if_neg hg).trans ((if_neg h0).trans ((if_neg h1).trans (if_pos h2)))⟩
 by_cases h5 : a.op = 5
 ·exact .inl ⟨_, fun g => (if_neg hg).trans ((if_neg h0).trans ((if_neg h1).trans ((if_neg h2).trans (if_pos h5))))⟩
 by_cases h3 : a.op = 3
 ·exact .inl ⟨_, fun g => (if_neg hg).trans ((if_neg h0).trans ((if_neg h1).trans ((if_neg h2).trans ((if_neg h5).trans (if_pos h3)))))⟩
 by_cases h4 : a.op = 4
 ·exact .inl ⟨_, fun g => (if_neg hg).trans ((if_neg h0).trans ((if_neg h1).trans ((if_neg h2).trans ((if_neg h5).trans ((if_neg h3).trans (if_pos h4))))))⟩
 by_cases h6 : a.op = 6
 ·exact .inl ⟨_, fun g => (if_neg hg).trans ((if_neg h0).trans ((if_neg h1).trans ((if_neg h2).trans ((if_neg h5).trans ((if_neg h3).trans ((if_neg h4).trans (if_pos h6)))))))⟩
 by_cases h7 : a.op = 7
 ·exact .inl ⟨_, fun g => (if_neg hg).trans ((if_neg h0).trans ((if_neg h1).trans ((if_neg h2).trans ((if_neg h5).trans ((if_neg h3).trans ((if_neg h4).trans ((if_neg h6).trans (if_pos h7))))))))⟩
 ·exact .inr fun g => (if_neg hg).trans ((if_neg h0).trans ((if_neg h1).trans ((if_neg h2).trans ((if_neg h5).trans ((if_neg h3).trans ((if_neg h4).trans ((if_neg h6).trans (if_neg h7))))))))
theorem MSim.sync {q q' : MW} (h : MSim q q') {t : Nat} {g g' : Int → Int} (hg : ∀ (n : Nat) (x x' : Lg), q.logs[n]? = some x → q'.logs[n]? = some x' → max x.1 (g n) = max x'.1 (g' n)) : MSim ((Eff.sync g).on t q) ((Eff.sync g').on t q') := by
 refine ⟨h.hs, h.vs, ?_, fun n x x' hx hx' => ?_⟩
 ·show (syncQ g q.logs).length = (syncQ g' q'.logs).length
  simp [syncQ, h.ll]
 ·have hx0 : (syncQ g q.logs)[n]? = some x := hx
  have hx0' : (syncQ g' q'.logs)[n]? = some x' := hx'
  rw [syncQ_at] at hx0 hx0'
  obtain ⟨y, hy, rfl⟩ := Option.map_eq_some_iff.1 hx0
  obtain ⟨y', hy', rfl⟩ := Option.map_eq_some_iff.1 hx0'
  obtain ⟨⟨h1, h2⟩, h3⟩ := h.lg n y y' hy hy'
  have h4 := hg n y y' hy hy'
  refine ⟨⟨h4, h2⟩, fun j hj => ?_⟩
  have h5 := h3 j hj
  show max (max y.1 (g n)) (askZ q.ak t j n) = max (max y'.1 (g' n)) (askZ q'.ak t j n)
  unfold askZ
  split
  ·simp only; omega
  ·omega
theorem MSim.on {q q' : MW} (h : MSim q q') (t : Nat) (e : Eff) : MSim (e.on t q) (e.on t q') := by
 cases e with
 | still => exact h
 | seen f => exact ⟨h.hs, by show q.vs.set t f = q'.vs.set t f; rw [h.vs], h.ll, fun n g g' hg hg' => ⟨(h.lg n g g' hg hg').1, fun j hj => (h.lg n g g' hg hg').2 j (by have : j < (q.vs.set t f).length := hj; rwa [List.length_set] at this)⟩⟩
 | wrote k m f x =>
  refine ⟨by show q.hs.modify k _ = q'.hs.modify k _; rw [h.hs], by show q.vs.set t f = q'.vs.set t f; rw [h.vs], by show (q.logs.modify _ _).length = (q'.logs.modify _ _).length; rw [List.length_modify, List.length_modify, h.ll], fun n g g' hg hg' => ?_⟩
  have hv : (q.vs.set t f).length = q.vs.length := List.length_set
  have hg0 : (q.logs.modify (k / 8) (fun g => (g.1, g.2 ++ [((k : Int), x)])))[n]? = some g := hg
  have hg0' : (q'.logs.modify (k / 8) (fun g => (g.1, g.2 ++ [((k : Int), x)])))[n]? = some g' := hg'
  by_cases e : k / 8 = n
  ·rw [← e, mod_at] at hg0 hg0'
   obtain ⟨y, hy, rfl⟩ := Option.map_eq_some_iff.1 hg0
   obtain ⟨y', hy', rfl⟩ := Option.map_eq_some_iff.1 hg0'
   obtain ⟨⟨h1, h2⟩, h3⟩ := h.lg _ y y' hy hy'
   refine ⟨⟨h1, by simp [h2]⟩, fun j hj => ?_⟩
   rw [← e]
   exact h3 j (by have : j < (q.vs.set t f).length := hj; omega)
  ·rw [mod_ne _ e] at hg0 hg0'
   exact ⟨(h.lg n g g' hg0 hg0').1, fun j hj => (h.lg n g g' hg0 hg0').2 j (by have : j < (q.vs.set t f).length := hj; omega)⟩
 | flush n0 v =>
  refine ⟨h.hs, h.vs, h.ll, fun n g g' hg hg' => ?_⟩
  obtain ⟨h1, h3⟩ := h.lg n g g' hg hg'
  refine ⟨h1, fun j hj => ?_⟩
  have h4 := h3 j hj
  show max g.1 (askP q.ak t n0 v j n) = max g'.1 (askP q'.ak t n0 v j n)
  unfold askP upd
  split
  ·subst_vars
   simp only
   split
   ·rw [h1.1]
   ·exact h4
  ·exact h4
 | sync g => exact h.sync (fun n x x' hx hx' => by rw [(h.lg n x x' hx hx').1.1])
theorem doq_sim {q q' : MW} (h : MSim q q') {t : Nat} (ht : t < q.vs.length) (a : ActV) (c : Int) : MSim (q.doq t a c).1 (q'.doq t a c).1 ∧ (q.doq t a c).2 = (q'.doq t a c).2 := by
 rw [doq_eff, doq_eff]
 have hnl : (q.logs.getD (a.at_.toNat / 8) (0, [])).2.length = (q'.logs.getD (a.at_.toNat / 8) (0, [])).2.length := by
  rw [List.getD_eq_getElem?_getD, List.getD_eq_getElem?_getD]
  by_cases hk : a.at_.toNat / 8 < q.logs.length
  ·rw [List.getElem?_eq_getElem hk, List.getElem?_eq_getElem (by rw [← h.ll]; exact hk)]
   exact (h.lg _ _ _ (List.getElem?_eq_getElem hk) (List.getElem?_eq_getElem (by rw [← h.ll]; exact hk))).1.2
  ·rw [List.getElem?_eq_none_iff.2 oM, List.getElem?_eq_none_iff.2 (by rw [← h.ll]; omega)]
 have he : effQ q' t a c = effL q.hs.length (q.hs.getD a.at_.toNat []) (q.vs.getD t (fun _ => 0)) (q.logs.getD (a.at_.toNat / 8) (0, [])).2.length (q'.ak t) t a c := by
  unfold effQ
  rw [← h.hs, ← h.vs, ← hnl]
 rw [he]
 have hq : effQ q t a c = effL q.hs.length (q.hs.getD a.at_.toNat []) (q.vs.getD t (fun _ => 0)) (q.logs.getD (a.at_.toNat / 8) (0, [])).2.length (q.ak t) t a c := rfl
 rw [hq]
 rcases effL_alike q.hs.length (q.hs.getD a.at_.toNat []) (q.vs.getD t (fun _ => 0)) (q.logs.getD (a.at_.toNat / 8) (0, [])).2.length t a c with ⟨e, h1⟩ | h1
 ·rw [h1, h1]
  exact ⟨h.on t _, rfl⟩
 ·rw [h1, h1]
  exact ⟨h.sync (fun n x x' hx hx' => (h.lg n x x' hx hx').2 t ht), rfl⟩
theorem PSim.act {P P' : PW} (h : PSim P P') (t : Nat) : P.act t = P'.act t := by
 unfold PW.act
 rw [h.rows, h.ss]
theorem PSim.ch {P P' : PW} (h : PSim P P') (t : Nat) : P.ch t = P'.ch t := by
 unfold PW.ch chA
 rw [h.act, h.q.hs, h.q.vs]
theorem PSim.cs {P P' : PW} (h : PSim P P') : P.cs = P'.cs := by
 unfold PW.cs
 rw [h.rows]
 exact List.map_congr_left (fun t _ => h.ch t)
theorem PSim.nx {P P' : PW} (h : PSim P P') {t : Nat} (ht : t < P.q.vs.length) (a : AS) (c : Int) : PSim (P.nx t a c) (P'.nx t a c) := by
 obtain ⟨h1, h2⟩ := doq_sim h.q ht (actP a) c
 refine ⟨h1, by show P.rows.modify _ _ = P'.rows.modify _ _; rw [h.rows], ?_, h.ss⟩
 show P.gots.modify t _ = P'.gots.modify t _
 rw [h.gots]
 unfold gotP
 rw [h2]
theorem PSim.next {P P' : PW} (h : PSim P P') {s : Nat × Nat} (ht : s.1 < P.q.vs.length) : PSim (P.next s) (P'.next s) := by
 unfold PW.next
 rw [← h.act]
 cases P.act s.1 with
 | none => exact h
 | some a => exact h.nx ht a s.2
theorem withF_out {f : Int → Int} {L : Nat} {k i : Int} (hk : 0 ≤ k ∧ k < (L : Int)) (hf : ∀ z, (z < 0 ∨ (L : Int) ≤ z) → f z = 0) : ∀ z, (z < 0 ∨ (L : Int) ≤ z) → withF f k i z = 0 := by
 intro z hz
 unfold withF upd
 split
 ·exact hf z hz
 ·show (if z = k then i else f z) = 0
  rw [if_neg oM]
  exact hf z hz
theorem joinF_out {f g : Int → Int} {L : Nat} (hf : ∀ z, (z < 0 ∨ (L : Int) ≤ z) → f z = 0) (hg : ∀ z, (z < 0 ∨ (L : Int) ≤ z) → g z = 0) : ∀ z, (z < 0 ∨ (L : Int) ≤ z) → joinF f g z = 0 := by
 intro z hz
 unfold joinF
 rw [hf z hz, hg z hz]
 rfl
def OutV (L : Nat) (q : MW) : Prop := (∀ l ∈ q.hs, ∀ p ∈ l, ∀ z, (z < 0 ∨ (L : Int) ≤ z) → p.2.2 z = 0) ∧ ∀ f ∈ q.vs, ∀ z, (z < 0 ∨ (L : Int) ≤ z) → f z = 0
theorem OutV.see {L t : Nat} {q : MW} {f : Int → Int} (h : OutV L q) (hf : ∀ z, (z < 0 ∨ (L : Int) ≤ z) → f z = 0) : OutV L ((Eff.seen f).on t q) :=
 ⟨h.1, fun g hg => by
  rcases List.mem_or_eq_of_mem_set (show g ∈ q.vs.set t f from hg) with hm | rfl
  ·exact h.2 g hm
  ·exact hf⟩
theorem OutV.write {L t k : Nat} {q : MW} {f : Int → Int} {m : Msg} {x : W3} (h : OutV L q) (hf : ∀ z, (z < 0 ∨ (L : Int) ≤ z) → f z = 0) (hm : ∀ z, (z < 0 ∨ (L : Int) ≤ z) → m.2.2 z = 0) : OutV L ((Eff.wrote k m f x).on t q) := by
 refine ⟨fun l hl p hp => ?_, (h.see (t := t) hf).2⟩
 obtain ⟨j, hj⟩ := List.mem_iff_getElem?.1 hl
 have hj' : (q.hs.modify k (fun l => l ++ [m]))[j]? = some l := hj
 by_cases e : k = j
 ·rw [← e, mod_at] at hj'
  obtain ⟨l0, h0, rfl⟩ := Option.map_eq_some_iff.1 hj'
  rcases List.mem_append.1 hp with hp | hp
  ·exact h.1 l0 (List.mem_of_getElem? h0) p hp
  ·rw [List.mem_singleton] at hp
   subst hp
   exact hm
 ·rw [mod_ne _ e] at hj'
  exact h.1 l (List.mem_of_getElem? hj') p hp
theorem getD_out {L : Nat} {q : MW} (h : OutV L q) (k i : Nat) : ∀ z, (z < 0 ∨ (L : Int) ≤ z) → ((q.hs.getD k []).getD i msgD).2.2 z = 0 := by
 intro z hz
 rw [List.getD_eq_getElem?_getD (i := i)]
 cases hi : (q.hs.getD k [])[i]? with
 | none => rfl
 | some p =>
  rw [List.getD_eq_getElem?_getD] at hi
  cases hk : q.hs[k]? with
  | none => rw [hk] at hi; simp at hi
  | some l =>
   rw [hk] at hi
   exact h.1 l (List.mem_of_getElem? hk) p (List.mem_of_getElem? hi) z hz
theorem vs_out {L : Nat} {q : MW} (h : OutV L q) (t : Nat) : ∀ z, (z < 0 ∨ (L : Int) ≤ z) → q.vs.getD t (fun _ => 0) z = 0 := by
 intro z hz
 rw [List.getD_eq_getElem?_getD]
 cases hk : q.vs[t]? with
 | none => rfl
 | some f => exact h.2 f (List.mem_of_getElem? hk) z hz
theorem doq_out {L : Nat} {q : MW} (hL : q.hs.length = L) (h : OutV L q) (t : Nat) (a : ActV) (c : Int) : OutV L (q.doq t a c).1 := by
 rw [doq_eff]
 show OutV L ((effQ q t a c).1.on t q)
 unfold effQ effL
 simp only
 by_cases hg : goodB q.hs.length a.op a.at_ = false
 ·rw [if_pos hg]
  exact h
 rw [if_neg hg]
 obtain ⟨g0, g8, gat⟩ := goodB_iff.1 (by simpa using hg)
 by_cases h0 : a.op = 0
 ·rw [if_pos h0]
  exact h
 rw [if_neg h0]
 by_cases h8 : a.op = 8
 ·rw [if_neg oM, if_neg oM, if_neg oM, if_neg oM, if_neg oM, if_neg oM, if_neg oM]
  exact h
 have hk : (0 : Int) ≤ (a.at_.toNat : Int) ∧ (a.at_.toNat : Int) < (L : Int) := by omega
 have hv := vs_out h t
 have hz : ∀ z : Int, (z < 0 ∨ (L : Int) ≤ z) → (fun _ => (0 : Int)) z = 0 := fun _ _ => rfl
 have hm := fun i => getD_out h a.at_.toNat i
 split
 ·exact h.see (withF_out hk hv)
 split
 ·exact h.see (joinF_out (withF_out hk hv) (hm _))
 split
 ·exact h.see (joinF_out (withF_out hk hv) (hm _))
 split
 ·exact h.write (withF_out hk hv) (withF_out hk hz)
 split
 ·exact h.write (withF_out hk hv) (withF_out hk hv)
 split
 ·split
  ·exact h.write (withF_out hk (joinF_out (withF_out hk hv) (hm _))) (withF_out hk (joinF_out (withF_out hk hv) (hm _)))
  ·exact h.see (joinF_out (withF_out hk hv) (hm _))
 split
 ·exact h
 ·exact h
theorem zip_mod {α β γ : Type} (f : α → β → γ) (u : γ → γ) (v : β → β) (hu : ∀ a b, u (f a b) = f a (v b)) : ∀ (t : Nat) (A : List α) (B : List β), (List.zipWith f A B).modify t u = List.zipWith f A (B.modify t v)
 | _, [], B => by simp
 | t, a :: A, [] => by cases t <;> simp
 | 0, a :: A, b :: B => by simp [hu]
 | t + 1, a :: A, b :: B => by simp [zip_mod f u v hu t A B]
theorem nx_of {L t : Nat} {rs : List RowP} {P : PW} {a : AS} {c : Int} (hL : P.q.hs.length = L) (h : P.Of L rs) : (P.nx t a c).Of L rs := by
 obtain ⟨h1, h2⟩ := doq_out hL ⟨h.hv, h.vv⟩ t (actP a) c
 refine ⟨?_, h1, h2⟩
 show P.rows.modify t RowP.nx = List.zipWith _ rs (P.gots.modify t _)
 rw [h.rows]
 exact zip_mod _ _ _ (fun r g => by simp [RowP.nx]) t rs P.gots
theorem PW0_of (ws : List W3) (x : ActsV) : (PW0 ws x).Of ws.length (PW0 ws x).rows := by
 refine ⟨by simp [PW0, List.range_succ, List.replicate_succ], fun l hl p hp z _ => ?_, fun f hf z _ => ?_⟩
 ·obtain ⟨y, _, rfl⟩ := List.mem_map.1 (show l ∈ ws.map (fun y => [(y, (0 : Int), fun _ => (0 : Int))]) from hl)
  rw [List.mem_singleton] at hp
  subst hp
  rfl
 ·obtain rfl := List.eq_of_mem_replicate (show f ∈ List.replicate 3 (fun _ => (0 : Int)) from hf)
  rfl
theorem law_ch_done (V : WorldV) (t : Nat) (k : TaskV) (w : World) (hR : V.R w) (hk : V.ts[t]? = some k) (hn : V.ts.length ≤ 1000) (hs : V.ss[t]? = some false) (hd : ∀ W, Calls Tryz.prog 41 #[(tkV k)] W (Ret (.bool true) W)) :
  Calls Tryz.prog 17 #[(woV V), .int .i64 ((t : Int) + 1)] w (Ret (.int .i64 0) w) := by
 try unfold woV
 have ht : t < V.ts.length := (List.getElem?_eq_some_iff.1 hk).1
 have hts : t < V.ss.length := (List.getElem?_eq_some_iff.1 hs).1
 obtain ⟨bl, off, e, hbl, hcl⟩ := Rd.elem hR.2.1.2.2.1 taskc_len ht hk
 obtain ⟨bs, ofs, es, hbs, s0⟩ := Rd.one hR.2.2.2.2 hts hs
 have Hd := hide hd
 clear hd
 ·obtain ⟨M, tA, tc, ts, sA, sc, ss⟩ := V
  simp only at e es ht hn hts
  subst e es
  (try simp only at Hmm)
  (try simp only at Hh)
  (try simp only at HR)
  (try simp only at Hseen)
  (try simp only at Hat)
  (try simp only)
  have g1 : ¬ ((t : Int) + 1 < 1) := by omega
  have g2 : ¬ ((t : Int) + 1 > (ts.length : Int)) := by omega
  have g2' : ¬ ((ts.length : Int) < (t : Int) + 1) := by omega
  have h0 : (0 : Int) ≤ (t : Int) := by omega
  have h1 : (t : Int) < (ts.length : Int) := by omega
  have h1' : (t : Int) < (ss.length : Int) := by omega
  have hw1 : IntKind.i64.wrap ((t : Int) + 1 - 1) = (t : Int) := by rw [show (t : Int) + 1 - 1 = (t : Int) by omega]; exact IntWalk.i64_in _ oM
  have hw2 : IntKind.i64.wrap (t : Int) = (t : Int) := IntWalk.i64_in _ oM
  have hz : bl < w.heap.size + 1 := by omega
  have hzs : bs < w.heap.size + 1 := by omega
  have t0 : w.cell? ⟨bl, off + t * 11, none⟩ = some (k.c) := hcl 0 _ rfl
  have t1 : w.cell? ⟨bl, off + t * 11 + 1, none⟩ = some (k.nx) := hcl 1 _ rfl
  have t2 : w.cell? ⟨bl, off + t * 11 + 2, none⟩ = some (.int .i64 k.a.o) := hcl 2 _ rfl
  have t3 : w.cell? ⟨bl, off + t * 11 + 3, none⟩ = some (.int .i64 k.a.l) := hcl 3 _ rfl
  have t4 : w.cell? ⟨bl, off + t * 11 + 4, none⟩ = some (.int .i64 k.a.v) := hcl 4 _ rfl
  have t5 : w.cell? ⟨bl, off + t * 11 + 5, none⟩ = some (.int .u32 k.a.r) := hcl 5 _ rfl
  have t6 : w.cell? ⟨bl, off + t * 11 + 6, none⟩ = some (.int .u32 k.a.f) := hcl 6 _ rfl
  have t7 : w.cell? ⟨bl, off + t * 11 + 7, none⟩ = some (.int .i64 k.a.v2) := hcl 7 _ rfl
  have t8 : w.cell? ⟨bl, off + t * 11 + 8, none⟩ = some (.int .u32 k.a.r2) := hcl 8 _ rfl
  have t9 : w.cell? ⟨bl, off + t * 11 + 9, none⟩ = some (.int .u32 k.a.f2) := hcl 9 _ rfl
  have t10 : w.cell? ⟨bl, off + t * 11 + 10, none⟩ = some (.slice k.A k.m k.cp) := hcl 10 _ rfl
  clear hR hk hn hs hcl
  go_enter Tryz.func17, Tryz.ntmps17
  go_wp2_with (first
   | (go_at_call 41; refine (Hd.out _).mono ?_; rintro e w1 ⟨rfl, hb1⟩; obtain ⟨hcc1, hff1, hs1⟩ := bC hb1; (try simp at hs1); have hx1 : w.heap.size < w1.heap.size := oM; have hy1 : bl < w1.heap.size := oM))
  go_ret
  exact ⟨rfl, ab0⟩
theorem law_ch_one (V : WorldV) (t : Nat) (k : TaskV) (w : World) (hR : V.R w) (hk : V.ts[t]? = some k) (hn : V.ts.length ≤ 1000) (hs : V.ss[t]? = some false) (hd : ∀ W, Calls Tryz.prog 41 #[(tkV k)] W (Ret (.bool false) W)) (ha : ∀ W, Calls Tryz.prog 18 #[(tkV k)] W (Ret (.tuple #[(acV k.a), .bool true]) W)) (h1 : k.a.o ≠ 1) (h2 : k.a.o ≠ 2) :
  Calls Tryz.prog 17 #[(woV V), .int .i64 ((t : Int) + 1)] w (Ret (.int .i64 1) w) := by
 try unfold woV
 have ht : t < V.ts.length := (List.getElem?_eq_some_iff.1 hk).1
 have hts : t < V.ss.length := (List.getElem?_eq_some_iff.1 hs).1
 obtain ⟨bl, off, e, hbl, hcl⟩ := Rd.elem hR.2.1.2.2.1 taskc_len ht hk
 obtain ⟨bs, ofs, es, hbs, s0⟩ := Rd.one hR.2.2.2.2 hts hs
 have Hd := hide hd
 have Ha := hide ha
 have n1 : (k.a.o != 1) = true := by simpa using h1
 have n2 : (k.a.o != 2) = true := by simpa using h2
 clear hd ha h1 h2
 ·obtain ⟨M, tA, tc, ts, sA, sc, ss⟩ := V
  simp only at e es ht hn hts
  subst e es
  (try simp only at Hmm)
  (try simp only at Hh)
  (try simp only at HR)
  (try simp only at Hseen)
  (try simp only at Hat)
  (try simp only)
  have g1 : ¬ ((t : Int) + 1 < 1) := by omega
  have g2 : ¬ ((t : Int) + 1 > (ts.length : Int)) := by omega
  have g2' : ¬ ((ts.length : Int) < (t : Int) + 1) := by omega
  have h0 : (0 : Int) ≤ (t : Int) := by omega
  have h1 : (t : Int) < (ts.length : Int) := by omega
  have h1' : (t : Int) < (ss.length : Int) := by omega
  have hw1 : IntKind.i64.wrap ((t : Int) + 1 - 1) = (t : Int) := by rw [show (t : Int) + 1 - 1 = (t : Int) by omega]; exact IntWalk.i64_in _ oM
  have hw2 : IntKind.i64.wrap (t : Int) = (t : Int) := IntWalk.i64_in _ oM
  have hz : bl < w.heap.size + 1 := by omega
  have hzs : bs < w.heap.size + 1 := by omega
  have t0 : w.cell? ⟨bl, off + t * 11, none⟩ = some (k.c) := hcl 0 _ rfl
  have t1 : w.cell? ⟨bl, off + t * 11 + 1, none⟩ = some (k.nx) := hcl 1 _ rfl
  have t2 : w.cell? ⟨bl, off + t * 11 + 2, none⟩ = some (.int .i64 k.a.o) := hcl 2 _ rfl
  have t3 : w.cell? ⟨bl, off + t * 11 + 3, none⟩ = some (.int .i64 k.a.l) := hcl 3 _ rfl
  have t4 : w.cell? ⟨bl, off + t * 11 + 4, none⟩ = some (.int .i64 k.a.v) := hcl 4 _ rfl
  have t5 : w.cell? ⟨bl, off + t * 11 + 5, none⟩ = some (.int .u32 k.a.r) := hcl 5 _ rfl
  have t6 : w.cell? ⟨bl, off + t * 11 + 6, none⟩ = some (.int .u32 k.a.f) := hcl 6 _ rfl
  have t7 : w.cell? ⟨bl, off + t * 11 + 7, none⟩ = some (.int .i64 k.a.v2) := hcl 7 _ rfl
  have t8 : w.cell? ⟨bl, off + t * 11 + 8, none⟩ = some (.int .u32 k.a.r2) := hcl 8 _ rfl
  have t9 : w.cell? ⟨bl, off + t * 11 + 9, none⟩ = some (.int .u32 k.a.f2) := hcl 9 _ rfl
  have t10 : w.cell? ⟨bl, off + t * 11 + 10, none⟩ = some (.slice k.A k.m k.cp) := hcl 10 _ rfl
  clear hR hk hn hs hcl
  go_enter Tryz.func17, Tryz.ntmps17
  go_wp2_with (first
   | (go_at_call 41; refine (Hd.out _).mono ?_; rintro e w1 ⟨rfl, hb1⟩; obtain ⟨hcc1, hff1, hs1⟩ := bC hb1; (try simp at hs1); have hx1 : w.heap.size < w1.heap.size := oM; have hy1 : bl < w1.heap.size := oM)
   | (go_at_call 18; refine (Ha.out _).mono ?_; rintro e w2 ⟨rfl, hb2⟩; obtain ⟨hcc2, hff2, hs2⟩ := bC hb2; (try simp at hs2); have hx2 : w.heap.size < w2.heap.size := oM; have hy2 : bl < w2.heap.size := oM))
  go_ret
  exact ⟨rfl, ab0⟩
theorem abD8 {p : Prop} (h : p := by
 obtain ⟨M, tA, tc, ts, sA, sc, ss⟩ := V
 simp only at e es ht hn hts
 subst e es
 (try simp only at Hmm)
 (try simp only at Hh)
 (try simp only at HR)
 (try simp only at Hseen)
 (try simp only at Hat)
 (try simp only)
 have g1 : ¬ ((t : Int) + 1 < 1) := by omega
 have g2 : ¬ ((t : Int) + 1 > (ts.length : Int)) := by omega
 have g2' : ¬ ((ts.length : Int) < (t : Int) + 1) := by omega
 have h0 : (0 : Int) ≤ (t : Int) := by omega
 have h1 : (t : Int) < (ts.length : Int) := by omega
 have h1' : (t : Int) < (ss.length : Int) := by omega
 have hw1 : IntKind.i64.wrap ((t : Int) + 1 - 1) = (t : Int) := by rw [show (t : Int) + 1 - 1 = (t : Int) by omega]; exact IntWalk.i64_in _ oM
 have hw2 : IntKind.i64.wrap (t : Int) = (t : Int) := IntWalk.i64_in _ oM
 have hz : bl < w.heap.size + 1 := by omega
 have hzs : bs < w.heap.size + 1 := by omega
 have t0 : w.cell? ⟨bl, off + t * 11, none⟩ = some (k.c) := hcl 0 _ rfl
 have t1 : w.cell? ⟨bl, off + t * 11 + 1, none⟩ = some (k.nx) := hcl 1 _ rfl
 have t2 : w.cell? ⟨bl, off + t * 11 + 2, none⟩ = some (.int .i64 k.a.o) := hcl 2 _ rfl
 have t3 : w.cell? ⟨bl, off + t * 11 + 3, none⟩ = some (.int .i64 k.a.l) := hcl 3 _ rfl
 have t4 : w.cell? ⟨bl, off + t * 11 + 4, none⟩ = some (.int .i64 k.a.v) := hcl 4 _ rfl
 have t5 : w.cell? ⟨bl, off + t * 11 + 5, none⟩ = some (.int .u32 k.a.r) := hcl 5 _ rfl
 have t6 : w.cell? ⟨bl, off + t * 11 + 6, none⟩ = some (.int .u32 k.a.f) := hcl 6 _ rfl
 have t7 : w.cell? ⟨bl, off + t * 11 + 7, none⟩ = some (.int .i64 k.a.v2) := hcl 7 _ rfl
 have t8 : w.cell? ⟨bl, off + t * 11 + 8, none⟩ = some (.int .u32 k.a.r2) := hcl 8 _ rfl
 have t9 : w.cell? ⟨bl, off + t * 11 + 9, none⟩ = some (.int .u32 k.a.f2) := hcl 9 _ rfl
 have t10 : w.cell? ⟨bl, off + t * 11 + 10, none⟩ = some (.slice k.A k.m k.cp) := hcl 10 _ rfl
 clear hR hk hn hs hcl
 go_enter Tryz.func17, Tryz.ntmps17
 go_wp2_with (first
  | (go_at_call 41; refine (Hd.out _).mono ?_; rintro e w1 ⟨rfl, hb1⟩; obtain ⟨hcc1, hff1, hs1⟩ := bC hb1; (try simp at hs1); have hx1 : w.heap.size < w1.heap.size := oM; have hy1 : bl < w1.heap.size := oM)
  | (go_at_call 18; refine (Ha.out _).mono ?_; rintro e w2 ⟨rfl, hb2⟩; obtain ⟨hcc2, hff2, hs2⟩ := bC hb2; (try simp at hs2); have hx2 : w.heap.size < w2.heap.size := oM; have hy2 : bl < w2.heap.size := oM)
  | (go_at_call 44; refine (Hmm.out _).mono ?_; rintro e w3 ⟨rfl, hb3⟩; obtain ⟨hcc3, hff3, hs3⟩ := bC hb3; (try simp at hs3); have hx3 : w.heap.size < w3.heap.size := oM; have hy3 : bl < w3.heap.size := oM; have hv3 : w2.heap.size < w3.heap.size := oM)
  | (go_at_call 45; refine (Hh.out _).mono ?_; rintro e w4 ⟨rfl, hb4⟩; obtain ⟨hcc4, hff4, hs4⟩ := bC hb4; (try simp at hs4); have hx4 : w.heap.size < w4.heap.size := oM; have hy4 : bl < w4.heap.size := oM; have hv4 : w2.heap.size < w4.heap.size := oM; have hu4 : w3.heap.size < w4.heap.size := oM))
 go_ret
 exact ⟨rfl, ab0⟩) : p := h
theorem law_ch_far1 (V : WorldV) (t : Nat) (k : TaskV) (w : World) (hR : V.R w) (hk : V.ts[t]? = some k) (hn : V.ts.length ≤ 1000) (hs : V.ss[t]? = some false) (hd : ∀ W, Calls Tryz.prog 41 #[(tkV k)] W (Ret (.bool false) W)) (ha : ∀ W, Calls Tryz.prog 18 #[(tkV k)] W (Ret (.tuple #[(acV k.a), .bool true]) W)) (ho : k.a.o = 1) (hz : k.a.l < 0 ∨ (V.M.mem.hs.length : Int) ≤ k.a.l) :
  Calls Tryz.prog 17 #[(woV V), .int .i64 ((t : Int) + 1)] w (Ret (.int .i64 1) w) := by
 have ht : t < V.ts.length := (List.getElem?_eq_some_iff.1 hk).1
 have hts : t < V.ss.length := (List.getElem?_eq_some_iff.1 hs).1
 obtain ⟨bl, off, e, hbl, hcl⟩ := Rd.elem hR.2.1.2.2.1 taskc_len ht hk
 obtain ⟨bs, ofs, es, hbs, s0⟩ := Rd.one hR.2.2.2.2 hts hs
 have Hd := hide hd
 have Ha := hide ha
 have hmm := fun W => mach_memory V.M W
 have hhist := fun W => mem_history_no V.M.mem k.a.l W hz
 have Hmm := hide hmm
 have Hh := hide hhist
 have n1 : (k.a.o != 1) = false := by simp [ho]
 clear hd ha ho hmm hhist hz
 ·exact abD8
theorem law_ch_far2 (V : WorldV) (t : Nat) (k : TaskV) (w : World) (hR : V.R w) (hk : V.ts[t]? = some k) (hn : V.ts.length ≤ 1000) (hs : V.ss[t]? = some false) (hd : ∀ W, Calls Tryz.prog 41 #[(tkV k)] W (Ret (.bool false) W)) (ha : ∀ W, Calls Tryz.prog 18 #[(tkV k)] W (Ret (.tuple #[(acV k.a), .bool true]) W)) (ho : k.a.o = 2) (hz : k.a.l < 0 ∨ (V.M.mem.hs.length : Int) ≤ k.a.l) :
  Calls Tryz.prog 17 #[(woV V), .int .i64 ((t : Int) + 1)] w (Ret (.int .i64 1) w) := by
 have ht : t < V.ts.length := (List.getElem?_eq_some_iff.1 hk).1
 have hts : t < V.ss.length := (List.getElem?_eq_some_iff.1 hs).1
 obtain ⟨bl, off, e, hbl, hcl⟩ := Rd.elem hR.2.1.2.2.1 taskc_len ht hk
 obtain ⟨bs, ofs, es, hbs, s0⟩ := Rd.one hR.2.2.2.2 hts hs
 have Hd := hide hd
 have Ha := hide ha
 have hmm := fun W => mach_memory V.M W
 have hhist := fun W => mem_history_no V.M.mem k.a.l W hz
 have Hmm := hide hmm
 have Hh := hide hhist
 have n1 : (k.a.o != 1) = true := by simp [ho]
 have n2 : (k.a.o != 2) = false := by simp [ho]
 clear hd ha ho hmm hhist hz
 ·exact abD8
theorem abD5 {p : Prop} (h : p := by
 obtain ⟨M, tA, tc, ts, sA, sc, ss⟩ := V
 simp only at e es ht hn hts
 subst e es
 (try simp only at Hmm)
 (try simp only at Hh)
 (try simp only at HR)
 (try simp only at Hseen)
 (try simp only at Hat)
 (try simp only)
 have g1 : ¬ ((t : Int) + 1 < 1) := by omega
 have g2 : ¬ ((t : Int) + 1 > (ts.length : Int)) := by omega
 have g2' : ¬ ((ts.length : Int) < (t : Int) + 1) := by omega
 have h0 : (0 : Int) ≤ (t : Int) := by omega
 have h1 : (t : Int) < (ts.length : Int) := by omega
 have h1' : (t : Int) < (ss.length : Int) := by omega
 have hw1 : IntKind.i64.wrap ((t : Int) + 1 - 1) = (t : Int) := by rw [show (t : Int) + 1 - 1 = (t : Int) by omega]; exact IntWalk.i64_in _ oM
 have hw2 : IntKind.i64.wrap (t : Int) = (t : Int) := IntWalk.i64_in _ oM
 have hz : bl < w.heap.size + 1 := by omega
 have hzs : bs < w.heap.size + 1 := by omega
 have t0 : w.cell? ⟨bl, off + t * 11, none⟩ = some (k.c) := hcl 0 _ rfl
 have t1 : w.cell? ⟨bl, off + t * 11 + 1, none⟩ = some (k.nx) := hcl 1 _ rfl
 have t2 : w.cell? ⟨bl, off + t * 11 + 2, none⟩ = some (.int .i64 k.a.o) := hcl 2 _ rfl
 have t3 : w.cell? ⟨bl, off + t * 11 + 3, none⟩ = some (.int .i64 k.a.l) := hcl 3 _ rfl
 have t4 : w.cell? ⟨bl, off + t * 11 + 4, none⟩ = some (.int .i64 k.a.v) := hcl 4 _ rfl
 have t5 : w.cell? ⟨bl, off + t * 11 + 5, none⟩ = some (.int .u32 k.a.r) := hcl 5 _ rfl
 have t6 : w.cell? ⟨bl, off + t * 11 + 6, none⟩ = some (.int .u32 k.a.f) := hcl 6 _ rfl
 have t7 : w.cell? ⟨bl, off + t * 11 + 7, none⟩ = some (.int .i64 k.a.v2) := hcl 7 _ rfl
 have t8 : w.cell? ⟨bl, off + t * 11 + 8, none⟩ = some (.int .u32 k.a.r2) := hcl 8 _ rfl
 have t9 : w.cell? ⟨bl, off + t * 11 + 9, none⟩ = some (.int .u32 k.a.f2) := hcl 9 _ rfl
 have t10 : w.cell? ⟨bl, off + t * 11 + 10, none⟩ = some (.slice k.A k.m k.cp) := hcl 10 _ rfl
 clear hR hk hn hs hcl
 go_enter Tryz.func17, Tryz.ntmps17
 go_upto_region 12 with (first
  | (go_at_call 41; refine (Hd.out _).mono ?_; rintro e w1 ⟨rfl, hb1⟩; obtain ⟨hcc1, hff1, hs1⟩ := bC hb1; (try simp at hs1); have hx1 : w.heap.size < w1.heap.size := oM; have hy1 : bl < w1.heap.size := oM)
  | (go_at_call 18; refine (Ha.out _).mono ?_; rintro e w2 ⟨rfl, hb2⟩; obtain ⟨hcc2, hff2, hs2⟩ := bC hb2; (try simp at hs2); have hx2 : w.heap.size < w2.heap.size := oM; have hy2 : bl < w2.heap.size := oM)
  | (go_at_call 44; refine (Hmm.out _).mono ?_; rintro e w3 ⟨rfl, hb3⟩; obtain ⟨hcc3, hff3, hs3⟩ := bC hb3; (try simp at hs3); have hx3 : w.heap.size < w3.heap.size := oM; have hy3 : bl < w3.heap.size := oM; have hv3 : w2.heap.size < w3.heap.size := oM)
  | (go_at_call 45; refine (Hh.out _ (HR.out.below (by first | with_reducible assumption | exact ab0))).mono ?_; rintro e w4 ⟨rfl, hb4⟩; obtain ⟨hcc4, hff4, hs4⟩ := bC hb4; (try simp at hs4); have hx4 : w.heap.size < w4.heap.size := oM; have hy4 : bl < w4.heap.size := oM; have hv4 : w2.heap.size < w4.heap.size := oM; have hu4 : w3.heap.size < w4.heap.size := oM))
 obtain ⟨wc, hwc⟩ : ∃ W : World, W = w4.alloc (.cells #[.slice h.A h.l.length h.cap] 115) := ⟨_, rfl⟩
 have hBc : Below w.heap.size w wc := by rw [hwc]; exact ab0
 have hsc : wc.heap.size = w4.heap.size + 1 := by rw [hwc]; simp
 have p8 : wc.cell? ⟨w4.heap.size, 0, none⟩ = some (.slice h.A h.l.length h.cap) := by rw [hwc]; go_simp
 have p7 : wc.cell? ⟨w3.heap.size, 0, none⟩ = some (.slice M.mem.pA M.mem.hs.length M.mem.pc) := by rw [hwc]; go_simp
 have p7b : wc.cell? ⟨w3.heap.size, 1, none⟩ = some (.slice M.mem.vA M.mem.vs.length M.mem.vc) := by rw [hwc]; go_simp
 have p5 : wc.cell? ⟨w2.heap.size, 1, none⟩ = some (.int .i64 k.a.l) := by rw [hwc]; go_simp
 have q4 : w4.heap.size < wc.heap.size := by omega
 have q3 : w3.heap.size < wc.heap.size := by omega
 have q2 : w2.heap.size < wc.heap.size := by omega
 have q0 : w.heap.size ≤ wc.heap.size := by omega
 have HBc := hide hBc
 rw [← hwc]
 clear hwc hBc hb1 hb2 hb3 hb4 hcc1 hcc2 hcc3 hcc4 hff1 hff2 hff3 hff4 t0 t1 t2 t3 t4 t5 t6 t7 t8 t9 t10 s0 hs1 hs2 hs3 hs4 hx1 hx2 hx3 hx4 hy1 hy2 hy3 hy4 hv3 hv4 hu4 hsc
 go_region_held3 (fun w' => w'.cell? ⟨w4.heap.size, 0, none⟩ = some (.slice h.A h.l.length h.cap) ∧ w'.cell? ⟨w3.heap.size, 0, none⟩ = some (.slice M.mem.pA M.mem.hs.length M.mem.pc) ∧ w'.cell? ⟨w3.heap.size, 1, none⟩ = some (.slice M.mem.vA M.mem.vs.length M.mem.vc) ∧ w'.cell? ⟨w2.heap.size, 1, none⟩ = some (.int .i64 k.a.l))
  (first | exact ⟨by go_simp, by go_simp, by go_simp, by go_simp⟩ | go_keep)
  (first
   | (go_at_call 46; with_reducible refine (Hlen.out _).mono ?_; rintro e w5 ⟨rfl, hb5'⟩; have hb5 : Below _ _ w5 := ab9; clear hb5'; obtain ⟨hcc5, hff5, hs5⟩ := bC hb5; (try simp at hs5); have hz54 : w4.heap.size < w5.heap.size := oM; have hz53 : w3.heap.size < w5.heap.size := oM; have hz52 : w2.heap.size < w5.heap.size := oM)
   | (go_at_call 47; refine (Hseen.out _ (HR.out.below (Below.trans HBc.out (Below.mono (B := wc.heap.size) ab0 oM)))).mono ?_; rintro e w6 ⟨rfl, hb6'⟩; have hb6 : Below _ _ w6 := (by first | with_reducible exact noDrew hb6' | exact hb6'); clear hb6'; obtain ⟨hcc6, hff6, hs6⟩ := bC hb6; (try simp at hs6); have hz64 : w4.heap.size < w6.heap.size := oM; have hz63 : w3.heap.size < w6.heap.size := oM; have hz62 : w2.heap.size < w6.heap.size := oM)
   | (go_at_call 48; refine (Hat.out _ (HR.out.below (Below.trans HBc.out (Below.mono (B := wc.heap.size) ab0 oM)))).mono ?_; rintro e w7 ⟨rfl, hb7'⟩; have hb7 : Below _ _ w7 := (by first | with_reducible exact noDrew hb7' | exact hb7'); clear hb7'; obtain ⟨hcc7, hff7, hs7⟩ := bC hb7; (try simp at hs7); have hz74 : w4.heap.size < w7.heap.size := oM; have hz73 : w3.heap.size < w7.heap.size := oM; have hz72 : w2.heap.size < w7.heap.size := oM))
 all_goals go_wp2
 all_goals go_ret
 all_goals exact ⟨by first | (rw [Int.max_comm]; rfl) | rfl, Below.trans HBc.out (Below.mono (B := wc.heap.size) ab0 oM)⟩) : p := h
theorem law_ch_load (V : WorldV) (t : Nat) (k : TaskV) (w : World) (hR : V.R w) (hk : V.ts[t]? = some k) (hn : V.ts.length ≤ 1000) (hs : V.ss[t]? = some false) (hd : ∀ W, Calls Tryz.prog 41 #[(tkV k)] W (Ret (.bool false) W)) (ha : ∀ W, Calls Tryz.prog 18 #[(tkV k)] W (Ret (.tuple #[(acV k.a), .bool true]) W)) (ho : k.a.o = 1) (kk : Nat) (hat : k.a.l = kk) (h : HistV) (v : VwV) (hh : V.M.mem.hs[kk]? = some h) (hv : V.M.mem.vs[t]? = some v) (hvn : V.M.mem.vs.length ≤ 1000) (hL : V.M.mem.hs.length ≤ 4096) (hl6 : h.l.length ≤ 1000000) (hf6 : ∀ z, v.f z ≤ 1000000) :
  Calls Tryz.prog 17 #[(woV V), .int .i64 ((t : Int) + 1)] w (Ret (.int .i64 (chN h.l.length (v.f kk))) w) := by
 have ht : t < V.ts.length := (List.getElem?_eq_some_iff.1 hk).1
 have hts : t < V.ss.length := (List.getElem?_eq_some_iff.1 hs).1
 obtain ⟨bl, off, e, hbl, hcl⟩ := Rd.elem hR.2.1.2.2.1 taskc_len ht hk
 obtain ⟨bs, ofs, es, hbs, s0⟩ := Rd.one hR.2.2.2.2 hts hs
 have Hd := hide hd
 have Ha := hide ha
 have hkk : kk < V.M.mem.hs.length := (List.getElem?_eq_some_iff.1 hh).1
 have hf0 : 0 ≤ v.f kk := ((hR.1.1.2.2.2.2 v (List.mem_of_getElem? hv)).1 kk).1
 have hf1 := hf6 kk
 have hmm := fun W => mach_memory V.M W
 have hhist := fun W (h0 : V.M.mem.R W) => mem_history V.M.mem kk h W h0 hh
 have hlen := fun W => hist_len h W
 have hseen := fun W (h0 : V.M.mem.R W) => mem_seen V.M.mem t v W h0 hv hvn
 have hat2 := fun W (h0 : V.M.mem.R W) => view_at V.M.mem.hs.length hL v kk W (h0.2.2.2.2 v (List.mem_of_getElem? hv)) oM oM
 rw [← hat] at hhist hat2
 have HR := hide hR.1.1
 have Hmm := hide hmm
 have Hh := hide hhist
 have Hlen := hide hlen
 have Hseen := hide hseen
 have Hat := hide hat2
 have hw : IntKind.i64.wrap ((h.l.length : Int) - v.f k.a.l) = (h.l.length : Int) - v.f k.a.l := IntWalk.i64_in _ (by rw [hat]; omega)
 rw [show chN h.l.length (v.f kk) = max 1 ((h.l.length : Int) - v.f k.a.l) from by rw [hat]; rfl]
 have n1 : (k.a.o != 1) = false := by simp [ho]
 clear hd ha ho hmm hhist hlen hseen hat2 hh hv hvn hL hl6 hf6 hf0 hf1 hkk hat
 ·exact abD5
theorem law_ch_acq (V : WorldV) (t : Nat) (k : TaskV) (w : World) (hR : V.R w) (hk : V.ts[t]? = some k) (hn : V.ts.length ≤ 1000) (hs : V.ss[t]? = some false) (hd : ∀ W, Calls Tryz.prog 41 #[(tkV k)] W (Ret (.bool false) W)) (ha : ∀ W, Calls Tryz.prog 18 #[(tkV k)] W (Ret (.tuple #[(acV k.a), .bool true]) W)) (ho : k.a.o = 2) (kk : Nat) (hat : k.a.l = kk) (h : HistV) (v : VwV) (hh : V.M.mem.hs[kk]? = some h) (hv : V.M.mem.vs[t]? = some v) (hvn : V.M.mem.vs.length ≤ 1000) (hL : V.M.mem.hs.length ≤ 4096) (hl6 : h.l.length ≤ 1000000) (hf6 : ∀ z, v.f z ≤ 1000000) :
  Calls Tryz.prog 17 #[(woV V), .int .i64 ((t : Int) + 1)] w (Ret (.int .i64 (chN h.l.length (v.f kk))) w) := by
 have ht : t < V.ts.length := (List.getElem?_eq_some_iff.1 hk).1
 have hts : t < V.ss.length := (List.getElem?_eq_some_iff.1 hs).1
 obtain ⟨bl, off, e, hbl, hcl⟩ := Rd.elem hR.2.1.2.2.1 taskc_len ht hk
 obtain ⟨bs, ofs, es, hbs, s0⟩ := Rd.one hR.2.2.2.2 hts hs
 have Hd := hide hd
 have Ha := hide ha
 have hkk : kk < V.M.mem.hs.length := (List.getElem?_eq_some_iff.1 hh).1
 have hf0 : 0 ≤ v.f kk := ((hR.1.1.2.2.2.2 v (List.mem_of_getElem? hv)).1 kk).1
 have hf1 := hf6 kk
 have hmm := fun W => mach_memory V.M W
 have hhist := fun W (h0 : V.M.mem.R W) => mem_history V.M.mem kk h W h0 hh
 have hlen := fun W => hist_len h W
 have hseen := fun W (h0 : V.M.mem.R W) => mem_seen V.M.mem t v W h0 hv hvn
 have hat2 := fun W (h0 : V.M.mem.R W) => view_at V.M.mem.hs.length hL v kk W (h0.2.2.2.2 v (List.mem_of_getElem? hv)) oM oM
 rw [← hat] at hhist hat2
 have HR := hide hR.1.1
 have Hmm := hide hmm
 have Hh := hide hhist
 have Hlen := hide hlen
 have Hseen := hide hseen
 have Hat := hide hat2
 have hw : IntKind.i64.wrap ((h.l.length : Int) - v.f k.a.l) = (h.l.length : Int) - v.f k.a.l := IntWalk.i64_in _ (by rw [hat]; omega)
 rw [show chN h.l.length (v.f kk) = max 1 ((h.l.length : Int) - v.f k.a.l) from by rw [hat]; rfl]
 have n1 : (k.a.o != 1) = true := by simp [ho]
 have n2 : (k.a.o != 2) = false := by simp [ho]
 clear hd ha ho hmm hhist hlen hseen hat2 hh hv hvn hL hl6 hf6 hf0 hf1 hkk hat
 ·exact abD5
structure Held (B0 L n : Nat) (W : World) (V : WorldV) (P : PW) : Prop where
 r : V.R W
 s : Shows V P
 i : P.In L 3 n
 rows : RowsB B0 W P
 t : Tab W
 b : B0 ≤ W.heap.size
 g : 0 < B0
 l : 0 < L ∧ L ≤ 12
 al : ∀ r ∈ P.rows, ∀ a ∈ r.l, inI a.l
section
variable {B0 L n : Nat} {W : World} {V : WorldV} {P : PW}
theorem Held.below (h : Held B0 L n W V P) {W' : World} (hb : Below W.heap.size W W') : Held B0 L n W' V P := ⟨h.r.below hb, h.s, h.i, fun r hr => (h.rows r hr).below (hb.mono h.b), h.t.below (hb.mono h.b) h.g, Nat.le_trans h.b hb.size, h.g, h.l, h.al⟩
theorem Held.fit (h : Held B0 L n W V P) (hn : n ≤ 99) : P.Fit := h.i.fits (by have := h.l; omega) oM oM
theorem Held.lens (h : Held B0 L n W V P) : V.ts.length = 3 ∧ V.ss.length = 3 ∧ V.M.mem.vs.length = 3 ∧ V.M.mem.hs.length = L ∧ P.rows.length = 3 ∧ P.ss.length = 3 := by
 have e1 := h.i.rt
 have e2 := h.i.rs
 have e3 := h.s.2.2.2.1
 have e4 := map_len h.s.1.1
 have e5 := map_len h.s.1.2.1
 have e6 := h.i.q.hs
 have e7 := h.i.q.vs
 have e8 := congrArg List.length h.s.2.2.1
 omega
theorem Held.task (h : Held B0 L n W V P) {t : Nat} (ht : t < 3) : ∃ (k : TaskV) (r : RowP), V.ts[t]? = some k ∧ P.rows[t]? = some r ∧ RT r.A r.cap r.l r.i k ∧ k ∈ V.ts := by
 obtain ⟨e1, e2, e3, e4, e5, e6⟩ := h.lens
 have h1 := List.getElem?_eq_getElem (l := V.ts) (i := t) oM
 have h2 := List.getElem?_eq_getElem (l := P.rows) (i := t) oM
 exact ⟨_, _, h1, h2, h.s.2.2.2.2.2 t _ _ h1 h2, List.mem_of_getElem? h1⟩
theorem Held.ss (h : Held B0 L n W V P) (hns : ∀ b ∈ P.ss, b = false) {t : Nat} (ht : t < 3) : V.ss[t]? = some false ∧ P.ss[t]? = some false := by
 obtain ⟨e1, e2, e3, e4, e5, e6⟩ := h.lens
 have hps : P.ss[t]? = some false := by rw [List.getElem?_eq_getElem oM, hns _ (List.getElem_mem oM)]
 exact ⟨by rw [h.s.2.2.1]; exact hps, hps⟩
theorem act_eq {t : Nat} (hps : P.ss[t]? = some false) {r : RowP} (hr : P.rows[t]? = some r) : P.act t = r.l[r.i]? := by
 unfold PW.act
 rw [getD_at hps, hr]
 rfl
theorem rows_nxB {t : Nat} {a : AS} {c : Int} (h : RowsB B0 W P) : RowsB B0 W (P.nx t a c) := by
 intro r hr
 obtain ⟨j, hj⟩ := List.mem_iff_getElem?.1 hr
 have hj' : (P.rows.modify t RowP.nx)[j]? = some r := hj
 by_cases e : t = j
 ·subst e
  rw [mod_at] at hj'
  obtain ⟨r0, hr0, rfl⟩ := Option.map_eq_some_iff.1 hj'
  exact h r0 (List.mem_of_getElem? hr0)
 ·rw [mod_ne _ e] at hj'
  exact h r (List.mem_of_getElem? hj')
theorem nx_al {t : Nat} {a : AS} {c : Int} (h : ∀ r ∈ P.rows, ∀ a ∈ r.l, inI a.l) : ∀ r ∈ (P.nx t a c).rows, ∀ a ∈ r.l, inI a.l := by
 intro r hr
 obtain ⟨j, hj⟩ := List.mem_iff_getElem?.1 hr
 have hj' : (P.rows.modify t RowP.nx)[j]? = some r := hj
 by_cases e : t = j
 ·subst e
  rw [mod_at] at hj'
  obtain ⟨r0, hr0, rfl⟩ := Option.map_eq_some_iff.1 hj'
  exact h r0 (List.mem_of_getElem? hr0)
 ·rw [mod_ne _ e] at hj'
  exact h r (List.mem_of_getElem? hj')
theorem held_step (h : Held B0 L n W V P) (hn : n ≤ 99) {t : Nat} {a : AS} (ha : P.act t = some a) (c : Int) (hcw : (Lit.int .i64 c).wf = true) :
  Calls Tryz.prog 13 #[(woV V), .agg #[.int .i64 0, .int .i64 ((t : Int) + 1), .int .i64 c]] W fun e w' => ∃ V2 : WorldV, e = .returned (.tuple #[(woV V2), .bool true]) ∧ Held B0 L (n + 1) w' V2 (P.nx t a c) ∧ (∀ C, C < W.heap.size → V.off C → V2.off C) ∧ Below W.heap.size W w' := by
 have hf := h.fit hn
 refine (step_row V P W t c a h.r h.s (fun r hr => ⟨(h.rows r hr).more h.b, by have := h.i.rows r hr; omega⟩) ha hf.q.can hf.rt (fun gl hg => (hf.gl gl hg).1) hcw).mono ?_
 rintro e w' ⟨V2, rfl, hS, hR, hoff, hb⟩
 exact ⟨V2, rfl, ⟨hR, hS, nx_in h.i ha, rows_nxB (fun r hr => (h.rows r hr).below (hb.mono h.b)), h.t.below (hb.mono h.b) h.g, Nat.le_trans h.b hb.size, h.g, h.l, nx_al h.al⟩, hoff, hb⟩
theorem held_key (h : Held B0 L n W V P) (hn : n ≤ 99) : Calls Tryz.prog 15 #[(woV V)] W (Ret (.string ⟨P.keyP.toArray⟩) W) := by
 have hf := h.fit hn
 have q := ex_key V W h.r h.t (Nat.lt_of_lt_of_le h.g h.b) (shows_okK h.r h.s hf)
 rw [shows_keyT h.s hf.rg] at q
 exact q
theorem held_act (h : Held B0 L n W V P) {t : Nat} {a : AS} {k : TaskV} (ht : t < 3) (hk : V.ts[t]? = some k) (ha : P.act t = some a) (W2 : World) : k.a = a ∧ Calls Tryz.prog 18 #[(tkV k)] W2 (Ret (.tuple #[(acV k.a), .bool true]) W2) := by
 obtain ⟨hps, r, hr, har⟩ := act_some ha
 exact rt_act (h.s.2.2.2.2.2 t k r hk hr) har W2
theorem held_ch (h : Held B0 L n W V P) (hn : n ≤ 99) (hns : ∀ b ∈ P.ss, b = false) {t : Nat} (ht : t < 3) : Calls Tryz.prog 17 #[(woV V), .int .i64 ((t : Int) + 1)] W (Ret (.int .i64 (P.ch t)) W) := by
 obtain ⟨x1, x2, x3, x4, x5, x6⟩ := h.lens
 obtain ⟨k, r, hk, hr, hrt, _⟩ := h.task ht
 obtain ⟨hs, hps⟩ := h.ss hns ht
 have hf := h.fit hn
 have hn' : V.ts.length ≤ 1000 := by omega
 have hae := act_eq hps hr
 cases ha : P.act t with
 | none =>
  rw [ha] at hae
  have hd : (rowS r.A r.cap r.l r.i).2.2 = true := by unfold rowS; rw [← hae]
  have e : P.ch t = 0 := by unfold PW.ch; rw [ha]
  rw [e]
  exact law_ch_done V t k W h.r hk hn' hs (fun W2 => by have q := rt_done hrt W2; rwa [hd] at q)
 | some a =>
  rw [ha] at hae
  have hd : (rowS r.A r.cap r.l r.i).2.2 = false := by unfold rowS; rw [← hae]
  have hdone := fun W2 => (by have q := rt_done hrt W2; rwa [hd] at q : Calls Tryz.prog 41 #[(.agg #[(k).c, (k).nx, .int .i64 ((k).a).o, .int .i64 ((k).a).l, .int .i64 ((k).a).v, .int .u32 ((k).a).r, .int .u32 ((k).a).f, .int .i64 ((k).a).v2, .int .u32 ((k).a).r2, .int .u32 ((k).a).f2, .slice (k).A (k).m (k).cp])] W2 fun e w' => e = .returned (.bool false) ∧ Below W2.heap.size W2 w')
  have hact := fun W2 => (held_act h ht hk ha W2).2
  have hka := (held_act h ht hk ha W).1
  have e : P.ch t = chA P.q t a := by unfold PW.ch; rw [ha]
  rw [e]
  unfold chA
  by_cases h12 : a.o = 1 ∨ a.o = 2
  ·by_cases hin : 0 ≤ a.l ∧ a.l < (P.q.hs.length : Int)
   ·rw [if_pos ⟨h12, hin⟩]
    have m1 := h.s.1.1
    have m2 := h.s.1.2.1
    have l1 := map_len m1
    have l2 := map_len m2
    have hkl : a.l.toNat < P.q.hs.length := by omega
    have hkv : t < P.q.vs.length := by omega
    have g1 := List.getElem?_eq_getElem hkl
    have g2 := List.getElem?_eq_getElem hkv
    obtain ⟨h', hh, e1⟩ := map_at m1 g1
    obtain ⟨v, hv, e2⟩ := map_at m2 g2
    have hvl := hf.q.vl _ (List.getElem_mem hkv)
    have l3 := map_len e1
    have hL := h.l
    obtain ⟨hl0, hl1⟩ := (hf.q.hl _ (List.getElem_mem hkl)).1
    have e3 : ((a.l.toNat : Nat) : Int) = a.l := by omega
    have e4 : (((chN h'.l.length (v.f a.l)).toNat : Nat) : Int) = chN h'.l.length (v.f a.l) := by
     unfold chN
     omega
    rw [getD_at g1, getD_at g2, ← l3, ← e2, e4]
    rcases h12 with h1 | h1
    ·have q := law_ch_load V t k W h.r hk hn' hs hdone hact (by rw [hka]; exact h1) a.l.toNat (by rw [hka]; omega) h' v hh hv oM oM oM (fun z => by rw [e2]; exact (hvl z).2)
     rw [e3] at q
     exact q
    ·have q := law_ch_acq V t k W h.r hk hn' hs hdone hact (by rw [hka]; exact h1) a.l.toNat (by rw [hka]; omega) h' v hh hv oM oM oM (fun z => by rw [e2]; exact (hvl z).2)
     rw [e3] at q
     exact q
   ·rw [if_neg (by rintro ⟨_, h⟩; exact hin h)]
    have m1 := map_len h.s.1.1
    rcases h12 with h1 | h1
    ·exact law_ch_far1 V t k W h.r hk hn' hs hdone hact (by rw [hka]; exact h1) (by rw [hka]; omega)
    ·exact law_ch_far2 V t k W h.r hk hn' hs hdone hact (by rw [hka]; exact h1) (by rw [hka]; omega)
  ·rw [if_neg (by rintro ⟨h, _⟩; exact h12 h)]
   exact law_ch_one V t k W h.r hk hn' hs hdone hact (by rw [hka]; omega) (by rw [hka]; omega)
end
def wol (V : WorldV) : List Value := [.slice ((V).M).mem.pA ((V).M).mem.hs.length ((V).M).mem.pc, .slice ((V).M).mem.vA ((V).M).mem.vs.length ((V).M).mem.vc, .slice ((V).M).ln.fA ((V).M).ln.first.length ((V).M).ln.fc, .slice ((V).M).ln.lA ((V).M).ln.logs.length ((V).M).ln.lc, .map ((V).M).ln.asks, .slice ((V).M).sA ((V).M).steps.length ((V).M).sc, .int .i64 ((V).M).crashes, .slice (V).tA (V).ts.length (V).tc, .slice (V).sA (V).ss.length (V).sc]
theorem box9 {C : Nat} {V : WorldV} {W : World} (h : BoxC C (wol V) W) : W.cell? ⟨C, 0, none⟩ = some (.slice V.M.mem.pA V.M.mem.hs.length V.M.mem.pc) ∧ W.cell? ⟨C, 1, none⟩ = some (.slice V.M.mem.vA V.M.mem.vs.length V.M.mem.vc) ∧ W.cell? ⟨C, 2, none⟩ = some (.slice V.M.ln.fA V.M.ln.first.length V.M.ln.fc) ∧ W.cell? ⟨C, 3, none⟩ = some (.slice V.M.ln.lA V.M.ln.logs.length V.M.ln.lc) ∧ W.cell? ⟨C, 4, none⟩ = some (.map V.M.ln.asks) ∧ W.cell? ⟨C, 5, none⟩ = some (.slice V.M.sA V.M.steps.length V.M.sc) ∧ W.cell? ⟨C, 6, none⟩ = some (.int .i64 V.M.crashes) ∧ W.cell? ⟨C, 7, none⟩ = some (.slice V.tA V.ts.length V.tc) ∧ W.cell? ⟨C, 8, none⟩ = some (.slice V.sA V.ss.length V.sc) ∧ ∀ o, W.frozen? ⟨C, o, none⟩ = false := ⟨h.at (j := 0) rfl, h.at (j := 1) rfl, h.at (j := 2) rfl, h.at (j := 3) rfl, h.at (j := 4) rfl, h.at (j := 5) rfl, h.at (j := 6) rfl, h.at (j := 7) rfl, h.at (j := 8) rfl, h.2.1⟩
section
variable {B0 L n C : Nat} {W : World} {V : WorldV} {P : PW}
theorem WorldV.R.fill {B n : Nat} {l : List Value} (h : V.R W) (hoff : V.off B) (hb : BoxE B n W) (hl : l.length ≤ n) (k : Nat) (hk : k + l.length ≤ n) : V.R (setFrom W B k l) :=
 keep_setFrom (P := fun w => V.R w) (fun _ _ x hc h => WorldV.R.set h hoff hc x) l k hk hb h
theorem Held.fill (h : Held B0 L n W V P) (hoff : V.off C) {U : List Value} (hb : BoxE C U.length W) (hC : B0 ≤ C) : Held B0 L n (setFrom W C 0 U) V P := by
 have hB : Below B0 W (setFrom W C 0 U) := below_setFrom hC _ _ (Below.refl _ _)
 exact ⟨h.r.fill hoff hb (Nat.le_refl _) 0 oM, h.s, h.i, fun r hr => (h.rows r hr).below hB, h.t.below hB h.g, by rw [setFrom_size]; exact h.b, h.g, h.l, h.al⟩
end
theorem world_held (A : Option Addr) (n cap : Nat) (ws : List W3) (x : ActsV) (w W : World) (hW : Below w.heap.size w W) (hg : 0 < w.heap.size) (ht : Tab w) (hw : ws.length = n) (hr : Rd w w.heap.size 3 A n (ws.flatMap w3c)) (hws : ∀ y ∈ ws, y.okW) (hx : x.R w w.heap.size) (hxo : ∀ k, ∀ a ∈ x.l k, (actP a).new.okW ∧ inI a.l) (h4 : ∀ k, k < 3 → (x.l k).length ≤ 4) (h7 : x.tot 3 ≤ 7) (hn1 : 1 ≤ n) (hn2 : n ≤ 12) :
  Calls Tryz.prog 7 #[.slice A n cap, .agg #[x.sl 0, x.sl 1, x.sl 2]] W fun e w' => ∃ V : WorldV, e = .returned (.tuple #[(woV V), .bool true]) ∧ (Held w.heap.size n 0 w' V (PW0 ws x) ∧ ∀ b ∈ (PW0 ws x).ss, b = false) ∧ Below W.heap.size W w' := by
 refine (world_ok A n cap ws x W hw ((hr.below hW).more hW.size) (fun k hk => ((hx k hk).below hW).more hW.size) h4 h7 hn1 hn2).mono ?_
 rintro e w' ⟨V, rfl, hS, hR, hb⟩
 have hb2 : Below w.heap.size w w' := hW.trans (hb.mono hW.size)
 have hin := PW0_in hws (fun k hk => ⟨by have := h4 k hk; omega, fun a ha => (hxo k a ha).1⟩)
 rw [hw] at hin
 refine ⟨V, rfl, ⟨⟨hR, hS, hin, fun r hr => ?_, ht.below hb2 hg, hb2.size, hg, by omega, fun r hr a ha => ?_⟩, fun b hb => ?_⟩, hb⟩
 ·obtain ⟨k, hk, rfl⟩ := List.mem_map.1 (show r ∈ (List.range 3).map (fun k => (⟨x.A k, x.c k, x.l k, 0⟩ : RowP)) from hr)
  exact (hx k (List.mem_range.1 hk)).below hb2
 ·obtain ⟨k, hk, rfl⟩ := List.mem_map.1 (show r ∈ (List.range 3).map (fun k => (⟨x.A k, x.c k, x.l k, 0⟩ : RowP)) from hr)
  exact (hxo k a ha).2
 ·exact List.eq_of_mem_replicate (show b ∈ List.replicate 3 false from hb)
theorem held_text {B0 L n : Nat} {W : World} {V : WorldV} {P : PW} (h : Held B0 L n W V P) (hn : n ≤ 99) : Calls Tryz.prog 16 #[(woV V)] W (Ret (.string ⟨P.outP.toArray⟩) W) := by
 have hf := h.fit hn
 obtain ⟨e1, e2, e3, e4, e5, e6⟩ := h.lens
 have hl := h.l
 have hw := words_okW hf.q
 have hwl : P.q.words.length = V.M.mem.hs.length := by
  have := map_len h.s.1.1
  simp only [MW.words, List.length_map]
  omega
 have q := law_text textW W3.okW V P.q.words W h.r (fun W2 hW => mach_words V.M P.q.words W2 (h.r.below hW).1.1 hwl oM (fun k x hx W3 hR3 => by
   obtain ⟨hi, j, g, g1, g2, g3, g4, rfl, _⟩ := words_at h.s.1 hf.q hx
   exact mach_word V.M k j hi g W3 hR3 g1 g2 g3 g4)) oM oM
  (fun x hx W2 hW => text_any x W2 hx (h.t.below hW (Nat.lt_of_lt_of_le h.g h.b)) (Nat.lt_of_lt_of_le (Nat.lt_of_lt_of_le h.g h.b) hW.size)) hw
  (fun k hk g hg => (hf.gl k.l (by rw [← h.s.2.1]; exact List.mem_map_of_mem hk)).2 g hg) oM
  (fun k hk => by
   have hm : k.l.length = k.m := gots_length (h.r.2.1.2.2.2 k hk).1
   have := (hf.gl k.l (by rw [← h.s.2.1]; exact List.mem_map_of_mem hk)).1
   omega) (by rw [h.s.2.1]; exact hf.ol)
 rw [h.s.2.1] at q
 exact q
end Go.Proofs.YtnnmenmifphadaaGreatDoor
