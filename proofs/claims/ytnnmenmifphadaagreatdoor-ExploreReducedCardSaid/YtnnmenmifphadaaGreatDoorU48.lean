/- Acts of two threads that are independent: in either order they lead to the same. -/
import Derived.Test.YtnnmenmifphadaaGreatDoorU47
set_option linter.unusedSimpArgs false
set_option linter.unusedVariables false
set_option maxRecDepth 100000
set_option maxHeartbeats 40000000
namespace Go.Proofs.YtnnmenmifphadaaGreatDoor
open Go.RowKit Go.Maps Go.Sort
inductive Eff where
 | still : Eff
 | seen : (Int → Int) → Eff
 | wrote : Nat → Msg → (Int → Int) → W3 → Eff
 | flush : Int → Int → Eff
 | sync : (Int → Int) → Eff
def Eff.on (t : Nat) (e : Eff) (q : MW) : MW := match e with
 | .still => q
 | .seen f => ⟨q.hs, q.vs.set t f, q.logs, q.ak⟩
 | .wrote k m f x => ⟨q.hs.modify k (fun l => l ++ [m]), q.vs.set t f, q.logs.modify (k / 8) (fun g => (g.1, g.2 ++ [((k : Int), x)])), q.ak⟩
 | .flush n v => ⟨q.hs, q.vs, q.logs, askP q.ak t n v⟩
 | .sync g => ⟨q.hs, q.vs, syncQ g q.logs, askZ q.ak t⟩
def effL (L : Nat) (l : List Msg) (f : Int → Int) (nl : Nat) (g : Int → Int) (t : Nat) (a : ActV) (c : Int) : Eff × W3 × Bool :=
 let k := a.at_.toNat
 let n := l.length - 1
 let i := (chooseL l.length (f k) c).toNat
 if goodB L a.op a.at_ = false then (.still, ⟨0, 0, 0⟩, false)
 else if a.op = 0 then (.still, ⟨0, 0, 0⟩, true)
 else if a.op = 1 then (.seen (withF f k i), (l.getD i msgD).1, true)
 else if a.op = 2 then (.seen (joinF (withF f k i) (l.getD i msgD).2.2), (l.getD i msgD).1, true)
 else if a.op = 5 then (.seen (joinF (withF f k n) (l.getD n msgD).2.2), (l.getD n msgD).1, true)
 else if a.op = 3 then (.wrote k (a.new, (t : Int) + 1, withF (fun _ => 0) k l.length) (withF f k l.length) a.new, ⟨0, 0, 0⟩, true)
 else if a.op = 4 then (.wrote k (a.new, (t : Int) + 1, withF f k l.length) (withF f k l.length) a.new, ⟨0, 0, 0⟩, true)
 else if a.op = 6 then
  if eq3 (l.getD n msgD).1 a.old then (.wrote k (a.new, (t : Int) + 1, withF (joinF (withF f k n) (l.getD n msgD).2.2) k (n + 1 : Nat)) (withF (joinF (withF f k n) (l.getD n msgD).2.2) k (n + 1 : Nat)) a.new, (l.getD n msgD).1, true)
  else (.seen (joinF (withF f k n) (l.getD n msgD).2.2), (l.getD n msgD).1, false)
 else if a.op = 7 then (.flush ((k : Int) / 8) nl, ⟨0, 0, 0⟩, true)
 else (.sync g, ⟨0, 0, 0⟩, true)
def effQ (q : MW) (t : Nat) (a : ActV) (c : Int) : Eff × W3 × Bool := effL q.hs.length (q.hs.getD a.at_.toNat []) (q.vs.getD t (fun _ => 0)) (q.logs.getD (a.at_.toNat / 8) (0, [])).2.length (q.ak t) t a c
theorem set_getD {α : Type} (l : List α) (k : Nat) (d : α) (g : α → α) : l.set k (g (l.getD k d)) = l.modify k g := by
 refine List.ext_getElem? (fun j => ?_)
 by_cases e : k = j
 ·subst e
  rw [mod_at, List.getD_eq_getElem?_getD]
  by_cases hk : k < l.length
  ·rw [List.getElem?_set_self hk, List.getElem?_eq_getElem hk]
   rfl
  ·rw [List.getElem?_eq_none_iff.2 (by rw [List.length_set]; omega), List.getElem?_eq_none_iff.2 oM]
   rfl
 ·rw [mod_ne _ e, List.getElem?_set_ne e]
theorem wrote_on (q : MW) (t k : Nat) (f fm : Int → Int) (x : W3) : q.wrote t k (q.hs.getD k []) f fm x (q.logs.getD (k / 8) (0, [])) = (Eff.wrote k (x, (t : Int) + 1, fm) f x).on t q := by
 unfold MW.wrote Eff.on
 simp only
 rw [set_getD q.hs k [] (fun l => l ++ [(x, (t : Int) + 1, fm)]), set_getD q.logs (k / 8) (0, []) (fun g => (g.1, g.2 ++ [((k : Int), x)]))]
theorem doq_eff (q : MW) (t : Nat) (a : ActV) (c : Int) : q.doq t a c = ((effQ q t a c).1.on t q, (effQ q t a c).2) := by
 unfold MW.doq effQ effL
 simp only
 by_cases hg : goodB q.hs.length a.op a.at_ = false
 ·simp only [if_pos hg]; rfl
 simp only [if_neg hg]
 by_cases h0 : a.op = 0
 ·simp only [if_pos h0]; rfl
 simp only [if_neg h0]
 by_cases h1 : a.op = 1
 ·simp only [if_pos h1]; rfl
 simp only [if_neg h1]
 by_cases h2 : a.op = 2
 ·simp only [if_pos h2]; rfl
 simp only [if_neg h2]
 by_cases h5 : a.op = 5
 ·simp only [if_pos h5]; rfl
 simp only [if_neg h5]
 by_cases h3 : a.op = 3
 ·simp only [if_pos h3, wrote_on]
 simp only [if_neg h3]
 by_cases h4 : a.op = 4
 ·simp only [if_pos h4, wrote_on]
 simp only [if_neg h4]
 by_cases h6 : a.op = 6
 ·simp only [if_pos h6]
  split
  ·simp only [wrote_on]
  ·rfl
 simp only [if_neg h6]
 by_cases h7 : a.op = 7
 ·simp only [if_pos h7]; rfl
 simp only [if_neg h7]
 rfl
theorem set_comm' {α : Type} {l : List α} {i j : Nat} {a b : α} (h : i ≠ j) : (l.set i a).set j b = (l.set j b).set i a := by
 refine List.ext_getElem? (fun n => ?_)
 simp only [List.getElem?_set, List.length_set]
 by_cases h1 : i = n <;> by_cases h2 : j = n <;> simp [h1, h2]
 omega
theorem mod_comm {α : Type} {l : List α} {i j : Nat} {f g : α → α} (h : i ≠ j) : (l.modify i f).modify j g = (l.modify j g).modify i f := by
 refine List.ext_getElem? (fun n => ?_)
 by_cases h1 : i = n
 ·subst h1
  rw [mod_ne _ (Ne.symm h), mod_at, mod_at, mod_ne _ (Ne.symm h)]
 ·by_cases h2 : j = n
  ·subst h2
   rw [mod_at, mod_ne _ h, mod_ne _ h, mod_at]
  ·rw [mod_ne _ h2, mod_ne _ h1, mod_ne _ h1, mod_ne _ h2]
theorem syncQ_at (g : Int → Int) (logs : List Lg) (n : Nat) : (syncQ g logs)[n]? = (logs[n]?).map (fun x => (max x.1 (g n), x.2)) := by
 unfold syncQ
 rw [List.getElem?_mapIdx]
theorem syncQ_mod (g : Int → Int) (logs : List Lg) (k : Nat) (y : List (Int × W3)) : syncQ g (logs.modify k (fun x => (x.1, x.2 ++ y))) = (syncQ g logs).modify k (fun x => (x.1, x.2 ++ y)) := by
 refine List.ext_getElem? (fun n => ?_)
 rw [syncQ_at]
 by_cases h : k = n
 ·subst h
  rw [mod_at, mod_at, syncQ_at, Option.map_map, Option.map_map]
  rfl
 ·rw [mod_ne _ h, mod_ne _ h, syncQ_at]
theorem syncQ_comm (g g' : Int → Int) (logs : List Lg) : syncQ g (syncQ g' logs) = syncQ g' (syncQ g logs) := by
 refine List.ext_getElem? (fun n => ?_)
 rw [syncQ_at, syncQ_at, syncQ_at, syncQ_at, Option.map_map, Option.map_map]
 congr 1
 funext x
 simp only [Function.comp_apply]
 congr 1
 omega
theorem askP_comm {G : Nat → Int → Int} {t u : Nat} {n v n' v' : Int} (h : t ≠ u) : askP (askP G u n' v') t n v = askP (askP G t n v) u n' v' := by
 funext t'
 unfold askP
 by_cases h1 : t' = t
 ·subst h1
  simp [h]
 ·by_cases h2 : t' = u
  ·subst h2
   simp [h1]
  ·simp [h1, h2]
theorem askPZ_comm {G : Nat → Int → Int} {t u : Nat} {n v : Int} (h : t ≠ u) : askP (askZ G u) t n v = askZ (askP G t n v) u := by
 funext t'
 unfold askP askZ
 by_cases h1 : t' = t
 ·subst h1
  simp [h]
 ·by_cases h2 : t' = u
  ·subst h2
   simp [h1]
  ·simp [h1, h2]
theorem askZ_comm {G : Nat → Int → Int} {t u : Nat} : askZ (askZ G u) t = askZ (askZ G t) u := by
 funext t'
 unfold askZ
 by_cases h1 : t' = t <;> by_cases h2 : t' = u <;> simp [h1, h2]
theorem on_comm {t u : Nat} (h : t ≠ u) (e e' : Eff) (q : MW) (hk : ∀ k m f x k' m' f' x', e = .wrote k m f x → e' = .wrote k' m' f' x' → k / 8 ≠ k' / 8) : e.on t (e'.on u q) = e'.on u (e.on t q) := by
 cases e with
 | still => rfl
 | seen f =>
  cases e' with
  | still => rfl
  | seen f' => simp only [Eff.on, set_comm' (Ne.symm h)]
  | wrote k' m' f' x' => simp only [Eff.on, set_comm' (Ne.symm h)]
  | flush n v => rfl
  | sync g => rfl
 | wrote k m f x =>
  cases e' with
  | still => rfl
  | seen f' => simp only [Eff.on, set_comm' (Ne.symm h)]
  | wrote k' m' f' x' =>
   have h8 := hk _ _ _ _ _ _ _ _ rfl rfl
   have h9 : k ≠ k' := fun e => h8 (by rw [e])
   simp only [Eff.on, set_comm' (Ne.symm h)]
   rw [mod_comm (Ne.symm h9), mod_comm (Ne.symm h8)]
  | flush n v => rfl
  | sync g => simp only [Eff.on, syncQ_mod]
 | flush n v =>
  cases e' with
  | still => rfl
  | seen f' => rfl
  | wrote k' m' f' x' => rfl
  | flush n' v' => simp only [Eff.on, askP_comm h]
  | sync g => simp only [Eff.on, askPZ_comm h]
 | sync g =>
  cases e' with
  | still => rfl
  | seen f' => rfl
  | wrote k' m' f' x' => simp only [Eff.on, syncQ_mod]
  | flush n' v' => simp only [Eff.on, askPZ_comm (Ne.symm h)]
  | sync g' => simp only [Eff.on, askZ_comm (t := t), syncQ_comm g]
theorem effL_same {L : Nat} {l l' : List Msg} {f g : Int → Int} {nl nl' t : Nat} {a : ActV} {c : Int} (h : goodB L a.op a.at_ = true → ((rdB a.op || wrB a.op) = true → l = l') ∧ (a.op = 7 → nl = nl')) : effL L l f nl g t a c = effL L l' f nl' g t a c := by
 cases hg : goodB L a.op a.at_ with
 | false => simp only [effL, if_pos hg]
 | true =>
  obtain ⟨h1, h2⟩ := h hg
  by_cases hr : (rdB a.op || wrB a.op) = true
  ·have hn : a.op ≠ 7 := by
    intro e
    rw [e] at hr
    exact absurd hr dM
   obtain rfl := h1 hr
   simp only [effL, if_neg hn]
  ·unfold rdB wrB at hr
   simp only [Bool.or_eq_true, beq_iff_eq, not_or] at hr
   obtain ⟨⟨⟨a1, a2⟩, a3⟩, ⟨a4, a5⟩, a6⟩ := hr
   by_cases hn : a.op = 7
   ·obtain rfl := h2 hn
    simp only [effL, if_neg a1, if_neg a2, if_neg a3, if_neg a4, if_neg a5, if_neg a6]
   ·simp only [effL, if_neg a1, if_neg a2, if_neg a3, if_neg a4, if_neg a5, if_neg a6, if_neg hn]
theorem effL_wrote {L : Nat} {l : List Msg} {f g : Int → Int} {nl t : Nat} {a : ActV} {c : Int} {k : Nat} {m : Msg} {f' : Int → Int} {x : W3} (h : (effL L l f nl g t a c).1 = .wrote k m f' x) : goodB L a.op a.at_ = true ∧ wrB a.op = true ∧ k = a.at_.toNat := by
 unfold effL at h
 simp only at h
 by_cases hg : goodB L a.op a.at_ = false
 ·rw [if_pos hg] at h; cases h
 rw [if_neg hg] at h
 by_cases h0 : a.op = 0
 ·rw [if_pos h0] at h; cases h
 rw [if_neg h0] at h
 by_cases h1 : a.op = 1
 ·rw [if_pos h1] at h; cases h
 rw [if_neg h1] at h
 by_cases h2 : a.op = 2
 ·rw [if_pos h2] at h; cases h
 rw [if_neg h2] at h
 by_cases h5 : a.op = 5
 ·rw [if_pos h5] at h; cases h
 rw [if_neg h5] at h
 have hg' : goodB L a.op a.at_ = true := by simpa using hg
 by_cases h3 : a.op = 3
 ·rw [if_pos h3] at h
  injection h with e1
  exact ⟨hg', by rw [h3]; rfl, e1.symm⟩
 rw [if_neg h3] at h
 by_cases h4 : a.op = 4
 ·rw [if_pos h4] at h
  injection h with e1
  exact ⟨hg', by rw [h4]; rfl, e1.symm⟩
 rw [if_neg h4] at h
 by_cases h6 : a.op = 6
 ·rw [if_pos h6] at h
  split at h
  ·injection h with e1
   exact ⟨hg', by rw [h6]; rfl, e1.symm⟩
  ·cases h
 rw [if_neg h6] at h
 by_cases h7 : a.op = 7
 ·rw [if_pos h7] at h; cases h
 rw [if_neg h7] at h
 cases h
theorem getD_mod {α : Type} (l : List α) (k j : Nat) (d : α) (g : α → α) (h : k ≠ j) : (l.modify k g).getD j d = l.getD j d := by
 rw [List.getD_eq_getElem?_getD, mod_ne _ h, ← List.getD_eq_getElem?_getD]
theorem getD_set {α : Type} (l : List α) (k j : Nat) (d a : α) (h : k ≠ j) : (l.set k a).getD j d = l.getD j d := by
 rw [List.getD_eq_getElem?_getD, List.getElem?_set_ne h, ← List.getD_eq_getElem?_getD]
theorem eff_len (e : Eff) (t : Nat) (q : MW) : (e.on t q).hs.length = q.hs.length := by
 cases e with
 | wrote k m f x => exact List.length_modify ..
 | _ => rfl
theorem effQ_same {t u : Nat} (h : t ≠ u) (q : MW) (e : Eff) (a : ActV) (c : Int) (hk : ∀ k m f x, e = .wrote k m f x → goodB q.hs.length a.op a.at_ = true → ((rdB a.op || wrB a.op) = true → k ≠ a.at_.toNat) ∧ (a.op = 7 → k / 8 ≠ a.at_.toNat / 8)) : effQ (e.on u q) t a c = effQ q t a c := by
 unfold effQ
 rw [eff_len]
 cases e with
 | still => rfl
 | seen f => simp only [Eff.on]; rw [getD_set _ _ _ _ _ (Ne.symm h)]
 | wrote k m f x =>
  simp only [Eff.on]
  rw [getD_set _ _ _ _ _ (Ne.symm h)]
  refine effL_same (fun hg => ?_)
  obtain ⟨h1, h2⟩ := hk _ _ _ _ rfl hg
  exact ⟨fun hr => getD_mod _ _ _ _ _ (h1 hr), fun h7 => by rw [getD_mod _ _ _ _ _ (h2 h7)]⟩
 | flush n v =>
  simp only [Eff.on]
  rw [show askP q.ak u n v t = q.ak t by unfold askP; rw [if_neg h]]
 | sync g =>
  simp only [Eff.on]
  rw [show askZ q.ak u t = q.ak t by unfold askZ; rw [if_neg h]]
  refine effL_same (fun hg => ⟨fun _ => rfl, fun _ => ?_⟩)
  rw [List.getD_eq_getElem?_getD, syncQ_at, List.getD_eq_getElem?_getD]
  cases q.logs[a.at_.toNat / 8]? <;> rfl
theorem indT_comm (x y : AS) : indT x y = indT y x := by
 unfold indT
 cases skB x.o <;> cases skB y.o <;> cases wrB x.o <;> cases wrB y.o <;> cases rdB x.o <;> cases rdB y.o <;> simp [bne_comm]
theorem good_at {L : Nat} {a : ActV} (h : goodB L a.op a.at_ = true) (h0 : a.op ≠ 0) (h8 : a.op ≠ 8) : 0 ≤ a.at_ ∧ a.at_ < (L : Int) := by
 obtain ⟨_, _, h3⟩ := goodB_iff.1 h
 omega
theorem ind_apart {L : Nat} {x y : AS} (hi : indT x y = true) (hx : goodB L x.o x.l = true) (hw : wrB x.o = true) (hy : goodB L y.o y.l = true) : ((rdB y.o || wrB y.o) = true → x.l.toNat ≠ y.l.toNat) ∧ ((wrB y.o = true ∨ y.o = 7) → x.l.toNat / 8 ≠ y.l.toNat / 8) := by
 have hxo : x.o ≠ 0 ∧ x.o ≠ 8 ∧ x.o ≠ 1 ∧ x.o ≠ 2 ∧ x.o ≠ 5 := by
  unfold wrB at hw
  simp only [Bool.or_eq_true, beq_iff_eq] at hw
  omega
 have gx := good_at (a := actP x) hx hxo.1 hxo.2.1
 have gx1 : 0 ≤ x.l := gx.1
 have sx : skB x.o = false := by unfold skB; simp; omega
 have rx : rdB x.o = false := by unfold rdB; simp; omega
 unfold indT at hi
 rw [sx, hw, rx] at hi
 by_cases hsk : skB y.o = true
 ·have h0 : y.o = 0 ∨ y.o = 8 := by
   unfold skB at hsk
   simpa using hsk
  refine ⟨fun hr => ?_, fun hr => ?_⟩
  ·exfalso
   unfold rdB wrB at hr
   rcases h0 with h0 | h0 <;> rw [h0] at hr <;> exact absurd hr dM
  ·exfalso
   unfold wrB at hr
   rcases h0 with h0 | h0 <;> rw [h0] at hr <;> exact absurd hr dM
 ·have sy : skB y.o = false := by simpa using hsk
  have hy0 : y.o ≠ 0 ∧ y.o ≠ 8 := by
   unfold skB at sy
   simp at sy
   exact sy
  have gy := good_at (a := actP y) hy hy0.1 hy0.2
  have gy1 : 0 ≤ y.l := gy.1
  rw [sy] at hi
  have ed : ∀ z : Int, 0 ≤ z → z.tdiv 8 = z / 8 := fun z hz => Int.tdiv_eq_ediv_of_nonneg hz
  cases hrd : rdB y.o with
  | true =>
   rw [hrd] at hi
   have hne : x.l ≠ y.l := by simpa using hi
   have hwy : wrB y.o = false := by
    unfold rdB at hrd
    unfold wrB
    simp only [Bool.or_eq_true, beq_iff_eq] at hrd
    rcases hrd with (h | h) | h <;> rw [h] <;> decide
   refine ⟨fun _ => by omega, fun h => ?_⟩
   rcases h with h | h
   ·rw [hwy] at h; cases h
   ·rw [h] at hrd
    exact absurd hrd dM
  | false =>
   rw [hrd] at hi
   have hne : x.l.tdiv 8 ≠ y.l.tdiv 8 := by simpa using hi
   rw [ed _ gx1, ed _ gy1] at hne
   exact ⟨fun _ => by omega, fun _ => by omega⟩
theorem ind_doq (q : MW) {t u : Nat} (h : t ≠ u) (x y : AS) (c d : Int) (hi : indT x y = true) :
  ((q.doq t (actP x) c).1.doq u (actP y) d).2 = (q.doq u (actP y) d).2 ∧ ((q.doq u (actP y) d).1.doq t (actP x) c).2 = (q.doq t (actP x) c).2 ∧ ((q.doq t (actP x) c).1.doq u (actP y) d).1 = ((q.doq u (actP y) d).1.doq t (actP x) c).1 := by
 have e1 : effQ ((effQ q t (actP x) c).1.on t q) u (actP y) d = effQ q u (actP y) d := by
  refine effQ_same (Ne.symm h) q _ (actP y) d (fun k m f z hk hg => ?_)
  obtain ⟨g1, g2, rfl⟩ := effL_wrote hk
  obtain ⟨r1, r2⟩ := ind_apart hi g1 g2 hg
  exact ⟨r1, fun h7 => r2 (.inr h7)⟩
 have e2 : effQ ((effQ q u (actP y) d).1.on u q) t (actP x) c = effQ q t (actP x) c := by
  refine effQ_same h q _ (actP x) c (fun k m f z hk hg => ?_)
  obtain ⟨g1, g2, rfl⟩ := effL_wrote hk
  obtain ⟨r1, r2⟩ := ind_apart (by rw [indT_comm]; exact hi) g1 g2 hg
  exact ⟨r1, fun h7 => r2 (.inr h7)⟩
 simp only [doq_eff]
 rw [e1, e2]
 refine ⟨rfl, rfl, ?_⟩
 exact on_comm (Ne.symm h) _ _ q (fun k m f z k' m' f' z' hk hk' => by
  obtain ⟨g1, g2, rfl⟩ := effL_wrote hk
  obtain ⟨g3, g4, rfl⟩ := effL_wrote hk'
  exact (ind_apart (by rw [indT_comm]; exact hi) g1 g2 g3).2 (.inl g4))
theorem nx_act {P : PW} {t u : Nat} (h : t ≠ u) (a : AS) (c : Int) : (P.nx t a c).act u = P.act u := by
 unfold PW.act PW.nx
 simp only
 rw [mod_ne _ h]
theorem nx_comm (P : PW) {t u : Nat} (h : t ≠ u) (x y : AS) (c d : Int) (hi : indT x y = true) : (P.nx t x c).nx u y d = (P.nx u y d).nx t x c := by
 obtain ⟨h1, h2, h3⟩ := ind_doq P.q h x y c d hi
 unfold PW.nx
 simp only
 rw [h3, mod_comm h, mod_comm h]
 simp only [gotP, h1, h2]
structure MSim (q q' : MW) : Prop where
 hs : q.hs = q'.hs
 vs : q.vs = q'.vs
 ll : q.logs.length = q'.logs.length
 lg : ∀ (n : Nat) (g g' : Lg), q.logs[n]? = some g → q'.logs[n]? = some g' → (g.1 = g'.1 ∧ g.2.length = g'.2.length) ∧ ∀ j, j < q.vs.length → max g.1 (q.ak j (n : Int)) = max g'.1 (q'.ak j (n : Int))
structure PW.Of (L : Nat) (rs : List RowP) (P : PW) : Prop where
 rows : P.rows = List.zipWith (fun (r : RowP) (g : List GS) => (⟨r.A, r.cap, r.l, g.length⟩ : RowP)) rs P.gots
 hv : ∀ l ∈ P.q.hs, ∀ p ∈ l, ∀ z, (z < 0 ∨ (L : Int) ≤ z) → p.2.2 z = 0
 vv : ∀ f ∈ P.q.vs, ∀ z, (z < 0 ∨ (L : Int) ≤ z) → f z = 0
theorem pairs_inj {f g : Int → Int} : ∀ {A B : List Int}, A.flatMap (fun z => numsT [z, f z]) = B.flatMap (fun z => numsT [z, g z]) → A = B ∧ ∀ z ∈ A, f z = g z
 | [], [], _ => ⟨rfl, fun z h => by cases h⟩
 | [], b :: B, h => by
  exfalso
  have := congrArg List.length h
  simp [numsT] at this
 | a :: A, [], h => by
  exfalso
  have := congrArg List.length h
  simp [numsT] at this
 | a :: A, b :: B, h => by
  rw [List.flatMap_cons, List.flatMap_cons] at h
  obtain ⟨h1, h2⟩ := nums_inj (by rfl) h
  simp only [List.cons.injEq, and_true] at h1
  obtain ⟨rfl, h3⟩ := h1
  obtain ⟨h4, h5⟩ := pairs_inj h2
  exact ⟨by rw [h4], fun z hz => by
   rcases List.mem_cons.1 hz with rfl | hz
   ·exact h3
   ·exact h5 z hz⟩
theorem view_inj {L : Nat} {f g : Int → Int} (hf : ∀ z, (z < 0 ∨ (L : Int) ≤ z) → f z = 0) (hg : ∀ z, (z < 0 ∨ (L : Int) ≤ z) → g z = 0) (h : (locsF L f).flatMap (fun z => numsT [z, f z]) = (locsF L g).flatMap (fun z => numsT [z, g z])) : f = g := by
 obtain ⟨h1, h2⟩ := pairs_inj h
 funext z
 by_cases hz : z < 0 ∨ (L : Int) ≤ z
 ·rw [hf z hz, hg z hz]
 ·by_cases h0 : f z = 0
  ·by_cases h3 : g z = 0
   ·rw [h0, h3]
   ·have : z ∈ locsF L f := by rw [h1]; exact locsF_mem.2 ⟨by omega, h3⟩
    exact h2 z this
  ·exact h2 z (locsF_mem.2 ⟨by omega, h0⟩)
theorem body_inj {L : Nat} {p p' : Msg} (hp : ∀ z, (z < 0 ∨ (L : Int) ≤ z) → p.2.2 z = 0) (hp' : ∀ z, (z < 0 ∨ (L : Int) ≤ z) → p'.2.2 z = 0) (h : bodyM L p = bodyM L p') : p = p' := by
 unfold bodyM rawT at h
 obtain ⟨h1, h2⟩ := nums_inj (by rfl) h
 obtain ⟨h3, h4⟩ := nums_inj (by rfl) h2
 obtain ⟨⟨v, r, f⟩, t, u⟩ := p
 obtain ⟨⟨v', r', f'⟩, t', u'⟩ := p'
 simp only [List.cons.injEq, and_true] at h1 h3
 obtain ⟨rfl, rfl, rfl⟩ := h1
 subst h3
 have e : u = u' := view_inj hp hp' h4
 rw [e]
theorem map_inj {α β : Type} {f : α → β} : ∀ {A B : List α}, (∀ a ∈ A, ∀ b ∈ B, f a = f b → a = b) → A.map f = B.map f → A = B
 | [], [], _, _ => rfl
 | [], _ :: _, _, h => by simp at h
 | _ :: _, [], _, h => by simp at h
 | a :: A, b :: B, hi, h => by
  rw [List.map_cons, List.map_cons] at h
  injection h with h1 h2
  rw [hi a List.mem_cons_self b List.mem_cons_self h1, map_inj (fun x hx y hy => hi x (List.mem_cons_of_mem _ hx) y (List.mem_cons_of_mem _ hy)) h2]
theorem hist_inj {L : Nat} {l l' : List Msg} (hl : ∀ p ∈ l, ∀ z, (z < 0 ∨ (L : Int) ≤ z) → p.2.2 z = 0) (hl' : ∀ p ∈ l', ∀ z, (z < 0 ∨ (L : Int) ≤ z) → p.2.2 z = 0) (h : l.flatMap (msgQ L) = l'.flatMap (msgQ L)) : l = l' := by
 rw [hist_body, hist_body] at h
 obtain ⟨h8, _⟩ := ends_inj (X := l.map (bodyM L)) (Y := l'.map (bodyM L)) (a := []) (b := []) (fun x hx => by obtain ⟨p, _, rfl⟩ := List.mem_map.1 hx; exact body_no dM no59 _ p) (fun x hx => by obtain ⟨p, _, rfl⟩ := List.mem_map.1 hx; exact body_no dM no59 _ p) sM sM (by rw [h])
 exact map_inj (fun a ha b hb e => body_inj (hl a ha) (hl' b hb) e) h8
theorem views_inj {L : Nat} {A B : List (Int → Int)} (hA : ∀ f ∈ A, ∀ z, (z < 0 ∨ (L : Int) ≤ z) → f z = 0) (hB : ∀ f ∈ B, ∀ z, (z < 0 ∨ (L : Int) ≤ z) → f z = 0) (h : A.flatMap (viewsT L) = B.flatMap (viewsT L)) : A = B := by
 have e : ∀ C : List (Int → Int), C.flatMap (viewsT L) = (C.map (fun f => (locsF L f).flatMap (fun z => numsT [z, f z]))).flatMap (fun x => x ++ [59]) := fun C => by rw [List.flatMap_map]; rfl
 rw [e, e] at h
 have no : ∀ C : List (Int → Int), ∀ x ∈ C.map (fun f => (locsF L f).flatMap (fun z => numsT [z, f z])), (59 : UInt8) ∉ x := fun C x hx hm => by
  obtain ⟨f, _, rfl⟩ := List.mem_map.1 hx
  obtain ⟨z, _, hz⟩ := List.mem_flatMap.1 hm
  exact nums_no dM no59 _ hz
 obtain ⟨h8, _⟩ := ends_inj (a := []) (b := []) (no A) (no B) sM sM (by rw [h])
 exact map_inj (fun a ha b hb e => view_inj (hA a ha) (hB b hb) e) h8
theorem blocks_inj {α : Type} {m : Nat} {f g : α → List Int} : ∀ {A B : List α}, A.length = B.length → (∀ a, (f a).length = m) → (∀ a, (g a).length = m) → A.flatMap f = B.flatMap g → ∀ (i : Nat) (a b : α), A[i]? = some a → B[i]? = some b → f a = g b
 | [], _, _, _, _, _, i, a, b, ha, _ => by simp at ha
 | _ :: _, [], hl, _, _, _, _, _, _, _, _ => by simp at hl
 | x :: A, y :: B, hl, hf, hg, h, i, a, b, ha, hb => by
  rw [List.flatMap_cons, List.flatMap_cons] at h
  obtain ⟨h1, h2⟩ := List.append_inj h (by rw [hf, hg])
  cases i with
  | zero =>
   simp only [List.getElem?_cons_zero, Option.some.injEq] at ha hb
   subst ha hb
   exact h1
  | succ i => exact blocks_inj (by simpa using hl) hf hg h2 i a b (by simpa using ha) (by simpa using hb)
def lineN (th : Nat) (ak : Nat → Int → Int) (p : Lg × Nat) : List Int := [p.1.1, (p.1.2.length : Int)] ++ (List.range th).map (fun j => max p.1.1 (ak j (p.2 : Int)))
theorem numsT_append (a b : List Int) : numsT (a ++ b) = numsT a ++ numsT b := by simp [numsT]
theorem numsT_flat {α : Type} (f : α → List Int) : ∀ l : List α, numsT (l.flatMap f) = l.flatMap (fun x => numsT (f x))
 | [] => rfl
 | x :: l => by rw [List.flatMap_cons, List.flatMap_cons, numsT_append, numsT_flat f l]
theorem lineQ_num (th : Nat) (ak : Nat → Int → Int) (p : Lg × Nat) : lineQ th ak p = numsT (lineN th ak p) := by
 unfold lineQ lineN
 rw [numsT_append]
 congr 1
 rw [← List.flatMap_singleton' (l := (List.range th).map (fun j => max p.1.1 (ak j (p.2 : Int)))), numsT_flat, List.flatMap_map]
 rfl
theorem lnT_num (q : MW) : q.lnT = numsT (q.logs.zipIdx.flatMap (lineN q.vs.length q.ak)) := by
 unfold MW.lnT
 rw [numsT_flat]
 congr 1
 funext p
 exact lineQ_num _ _ p
theorem lineN_len (th : Nat) (ak : Nat → Int → Int) (p : Lg × Nat) : (lineN th ak p).length = th + 2 := by
 unfold lineN
 rw [List.length_append, List.length_map, List.length_range]
 simp only [List.length_cons, List.length_nil]
 omega
theorem flat_len {α : Type} {m : Nat} {f : α → List Int} (hf : ∀ a, (f a).length = m) : ∀ l : List α, (l.flatMap f).length = l.length * m
 | [] => by simp
 | x :: l => by rw [List.flatMap_cons, List.length_append, hf, flat_len hf l, List.length_cons, Nat.succ_mul, Nat.add_comm]
theorem MSim.texts {q q' : MW} (h : MSim q q') : q.memT = q'.memT ∧ q.lnT = q'.lnT := by
 refine ⟨by unfold MW.memT; rw [h.hs, h.vs], ?_⟩
 unfold MW.lnT
 refine flat_at (by rw [List.length_zipIdx, List.length_zipIdx, h.ll]) (fun i a b ha hb => ?_)
 rw [List.getElem?_zipIdx] at ha hb
 obtain ⟨g, hg, rfl⟩ := Option.map_eq_some_iff.1 ha
 obtain ⟨g', hg', rfl⟩ := Option.map_eq_some_iff.1 hb
 obtain ⟨⟨h1, h2⟩, h3⟩ := h.lg i g g' hg hg'
 rw [lineQ_num, lineQ_num]
 congr 1
 unfold lineN
 rw [show (g, 0 + i).1.1 = g.1 from rfl, show (g', 0 + i).1.1 = g'.1 from rfl, show (g, 0 + i).1.2 = g.2 from rfl, show (g', 0 + i).1.2 = g'.2 from rfl, h2, ← h.vs]
 congr 1
 ·rw [h1]
 ·refine List.map_congr_left (fun j hj => ?_)
  have := h3 j (List.mem_range.1 hj)
  simpa using this
structure PSim (P P' : PW) : Prop where
 q : MSim P.q P'.q
 rows : P.rows = P'.rows
 gots : P.gots = P'.gots
 ss : P.ss = P'.ss
theorem PSim.key {P P' : PW} (h : PSim P P') : P.keyP = P'.keyP := by
 obtain ⟨h1, h2⟩ := h.q.texts
 unfold PW.keyP
 rw [h1, h2, h.rows, h.gots, h.ss]
theorem key_sim {L n n' : Nat} {rs : List RowP} {P P' : PW} (h : P.In L 3 n) (h' : P'.In L 3 n') (ho : P.Of L rs) (ho' : P'.Of L rs) (hk : P.keyP = P'.keyP) : PSim P P' := by
 obtain ⟨_, k2, k3⟩ := key_tells h h' hk
 rw [key_form, key_form] at hk
 obtain ⟨h1, h2⟩ := sep_split (memT_no _) (memT_no _) hk
 obtain ⟨h2, _⟩ := heads_inj (fun x hx => by obtain ⟨p, _, rfl⟩ := List.mem_map.1 hx; exact seg_no p) (fun x hx => by obtain ⟨p, _, rfl⟩ := List.mem_map.1 hx; exact seg_no p) (lnT_no _) (lnT_no _) h2
 have e1 := h.q.hs
 have e1' := h'.q.hs
 have hvs : P.q.vs.length = P'.q.vs.length := by rw [h.q.vs, h'.q.vs]
 have hll : P.q.logs.length = P'.q.logs.length := by rw [h.q.lg, h'.q.lg]
 unfold MW.memT at h1
 rw [e1, e1'] at h1
 have hX : ∀ q : MW, q.hs.flatMap (fun l => l.flatMap (msgQ L) ++ [47]) = (q.hs.map (fun l => l.flatMap (msgQ L))).flatMap (fun x => x ++ [47]) := fun q => by rw [List.flatMap_map]
 rw [hX, hX] at h1
 have nv : ∀ q : MW, (47 : UInt8) ∉ q.vs.flatMap (viewsT L) := fun q hm => by
  obtain ⟨f, _, hf⟩ := List.mem_flatMap.1 hm
  exact views_no dM dM no47 _ f hf
 obtain ⟨h5, h6⟩ := ends_inj (fun x hx => by obtain ⟨l, _, rfl⟩ := List.mem_map.1 hx; exact hist_no dM dM no47 _ l) (fun x hx => by obtain ⟨l, _, rfl⟩ := List.mem_map.1 hx; exact hist_no dM dM no47 _ l) (nv _) (nv _) h1
 have hhs : P.q.hs = P'.q.hs := map_inj (fun a ha b hb e => hist_inj (ho.hv a ha) (ho'.hv b hb) e) h5
 have hvv : P.q.vs = P'.q.vs := views_inj ho.vv ho'.vv h6
 refine ⟨⟨hhs, hvv, hll, fun n g g' hg hg' => ?_⟩, by rw [ho.rows, ho'.rows, k2], k2, k3⟩
 rw [lnT_num, lnT_num] at h2
 have hlen : (P.q.logs.zipIdx.flatMap (lineN P.q.vs.length P.q.ak)).length = (P'.q.logs.zipIdx.flatMap (lineN P'.q.vs.length P'.q.ak)).length := by
  rw [flat_len (lineN_len _ _), flat_len (lineN_len _ _), List.length_zipIdx, List.length_zipIdx, hll, hvs]
 obtain ⟨h3, _⟩ := nums_inj (a := []) (b := []) hlen (by rw [h2])
 have h4 := blocks_inj (m := P.q.vs.length + 2) (by rw [List.length_zipIdx, List.length_zipIdx, hll]) (lineN_len _ _) (fun a => by rw [lineN_len, hvs]) h3 n (g, n) (g', n) (by rw [List.getElem?_zipIdx, hg]; simp) (by rw [List.getElem?_zipIdx, hg']; simp)
 unfold lineN at h4
 obtain ⟨h7, h8⟩ := List.append_inj h4 (by rfl)
 simp only [List.cons.injEq, and_true] at h7
 refine ⟨⟨h7.1, by omega⟩, fun j hj => ?_⟩
 have h9 := congrArg (fun z => z[j]?) h8
 simp only [List.getElem?_map] at h9
 rw [List.getElem?_range hj, List.getElem?_range oM] at h9
 simpa using h9
theorem effL_alike (L : Nat) (l : List Msg) (f : Int → Int) (nl : Nat) (t : Nat) (a : ActV) (c : Int) : (∃ e, ∀ g, effL L l f nl g t a c = e) ∨ ∀ g, effL L l f nl g t a c = (.sync g, ⟨0, 0, 0⟩, true) := by
 by_cases hg : goodB L a.op a.at_ = false
 ·exact .inl ⟨_, fun g => if_pos hg⟩
 by_cases h0 : a.op = 0
 ·exact .inl ⟨_, fun g => (if_neg hg).trans (if_pos h0)⟩
 by_cases h1 : a.op = 1
 ·exact .inl ⟨_, fun g => (if_neg hg).trans ((if_neg h0).trans (if_pos h1))⟩
 by_cases h2 : a.op = 2
 ·exact .inl ⟨_, fun g => (if_neg hg).trans ((if_neg h0).trans ((if_neg h1).trans (if_pos h2)))⟩
 by_cases h5 : a.op = 5
 ·exact .inl ⟨_, fun g => (if_neg hg).trans ((if_neg h0).trans ((if_neg h1).trans ((if_neg h2).trans (if_pos h5))))⟩
 by_cases h3 : a.op = 3
 ·exact .inl ⟨_, fun g => (if_neg hg).trans ((if_neg h0).trans ((if_neg h1).trans ((if_neg h2).trans ((if_neg h5).trans (if_pos h3)))))⟩
 by_cases h4 : a.op = 4
 ·exact .inl ⟨_, fun g => (if_neg hg).trans ((if_neg h0).trans ((if_neg h1).trans ((if_neg h2).trans ((if_neg h5).trans ((if_neg h3).trans (if_pos h4))))))⟩
 by_cases h6 : a.op = 6
 ·exact .inl ⟨_, fun g => (if_neg hg).trans ((if_neg h0).trans ((if_neg h1).trans ((if_neg h2).trans ((if_neg h5).trans ((if_neg h3).trans ((if_neg h4).trans (if_pos h6)))))))⟩
 by_cases h7 : a.op = 7
 ·exact .inl ⟨_, fun g => (if_neg hg).trans ((if_neg h0).trans ((if_neg h1).trans ((if_neg h2).trans ((if_neg h5).trans ((if_neg h3).trans ((if_neg h4).trans ((if_neg h6).trans (if_pos h7))))))))⟩
 ·exact .inr fun g => (if_neg hg).trans ((if_neg h0).trans ((if_neg h1).trans ((if_neg h2).trans ((if_neg h5).trans ((if_neg h3).trans ((if_neg h4).trans ((if_neg h6).trans (if_neg h7))))))))
theorem MSim.sync {q q' : MW} (h : MSim q q') {t : Nat} {g g' : Int → Int} (hg : ∀ (n : Nat) (x x' : Lg), q.logs[n]? = some x → q'.logs[n]? = some x' → max x.1 (g n) = max x'.1 (g' n)) : MSim ((Eff.sync g).on t q) ((Eff.sync g').on t q') := by
 refine ⟨h.hs, h.vs, ?_, fun n x x' hx hx' => ?_⟩
 ·show (syncQ g q.logs).length = (syncQ g' q'.logs).length
  simp [syncQ, h.ll]
 ·have hx0 : (syncQ g q.logs)[n]? = some x := hx
  have hx0' : (syncQ g' q'.logs)[n]? = some x' := hx'
  rw [syncQ_at] at hx0 hx0'
  obtain ⟨y, hy, rfl⟩ := Option.map_eq_some_iff.1 hx0
  obtain ⟨y', hy', rfl⟩ := Option.map_eq_some_iff.1 hx0'
  obtain ⟨⟨h1, h2⟩, h3⟩ := h.lg n y y' hy hy'
  have h4 := hg n y y' hy hy'
  refine ⟨⟨h4, h2⟩, fun j hj => ?_⟩
  have h5 := h3 j hj
  show max (max y.1 (g n)) (askZ q.ak t j n) = max (max y'.1 (g' n)) (askZ q'.ak t j n)
  unfold askZ
  split
  ·simp only; omega
  ·omega
theorem MSim.on {q q' : MW} (h : MSim q q') (t : Nat) (e : Eff) : MSim (e.on t q) (e.on t q') := by
 cases e with
 | still => exact h
 | seen f => exact ⟨h.hs, by show q.vs.set t f = q'.vs.set t f; rw [h.vs], h.ll, fun n g g' hg hg' => ⟨(h.lg n g g' hg hg').1, fun j hj => (h.lg n g g' hg hg').2 j (by have : j < (q.vs.set t f).length := hj; rwa [List.length_set] at this)⟩⟩
 | wrote k m f x =>
  refine ⟨by show q.hs.modify k _ = q'.hs.modify k _; rw [h.hs], by show q.vs.set t f = q'.vs.set t f; rw [h.vs], by show (q.logs.modify _ _).length = (q'.logs.modify _ _).length; rw [List.length_modify, List.length_modify, h.ll], fun n g g' hg hg' => ?_⟩
  have hv : (q.vs.set t f).length = q.vs.length := List.length_set
  have hg0 : (q.logs.modify (k / 8) (fun g => (g.1, g.2 ++ [((k : Int), x)])))[n]? = some g := hg
  have hg0' : (q'.logs.modify (k / 8) (fun g => (g.1, g.2 ++ [((k : Int), x)])))[n]? = some g' := hg'
  by_cases e : k / 8 = n
  ·rw [← e, mod_at] at hg0 hg0'
   obtain ⟨y, hy, rfl⟩ := Option.map_eq_some_iff.1 hg0
   obtain ⟨y', hy', rfl⟩ := Option.map_eq_some_iff.1 hg0'
   obtain ⟨⟨h1, h2⟩, h3⟩ := h.lg _ y y' hy hy'
   refine ⟨⟨h1, by simp [h2]⟩, fun j hj => ?_⟩
   rw [← e]
   exact h3 j (by have : j < (q.vs.set t f).length := hj; omega)
  ·rw [mod_ne _ e] at hg0 hg0'
   exact ⟨(h.lg n g g' hg0 hg0').1, fun j hj => (h.lg n g g' hg0 hg0').2 j (by have : j < (q.vs.set t f).length := hj; omega)⟩
 | flush n0 v =>
  refine ⟨h.hs, h.vs, h.ll, fun n g g' hg hg' => ?_⟩
  obtain ⟨h1, h3⟩ := h.lg n g g' hg hg'
  refine ⟨h1, fun j hj => ?_⟩
  have h4 := h3 j hj
  show max g.1 (askP q.ak t n0 v j n) = max g'.1 (askP q'.ak t n0 v j n)
  unfold askP upd
  split
  ·subst_vars
   simp only
   split
   ·rw [h1.1]
   ·exact h4
  ·exact h4
 | sync g => exact h.sync (fun n x x' hx hx' => by rw [(h.lg n x x' hx hx').1.1])
theorem doq_sim {q q' : MW} (h : MSim q q') {t : Nat} (ht : t < q.vs.length) (a : ActV) (c : Int) : MSim (q.doq t a c).1 (q'.doq t a c).1 ∧ (q.doq t a c).2 = (q'.doq t a c).2 := by
 rw [doq_eff, doq_eff]
 have hnl : (q.logs.getD (a.at_.toNat / 8) (0, [])).2.length = (q'.logs.getD (a.at_.toNat / 8) (0, [])).2.length := by
  rw [List.getD_eq_getElem?_getD, List.getD_eq_getElem?_getD]
  by_cases hk : a.at_.toNat / 8 < q.logs.length
  ·rw [List.getElem?_eq_getElem hk, List.getElem?_eq_getElem (by rw [← h.ll]; exact hk)]
   exact (h.lg _ _ _ (List.getElem?_eq_getElem hk) (List.getElem?_eq_getElem (by rw [← h.ll]; exact hk))).1.2
  ·rw [List.getElem?_eq_none_iff.2 oM, List.getElem?_eq_none_iff.2 (by rw [← h.ll]; omega)]
 have he : effQ q' t a c = effL q.hs.length (q.hs.getD a.at_.toNat []) (q.vs.getD t (fun _ => 0)) (q.logs.getD (a.at_.toNat / 8) (0, [])).2.length (q'.ak t) t a c := by
  unfold effQ
  rw [← h.hs, ← h.vs, ← hnl]
 rw [he]
 have hq : effQ q t a c = effL q.hs.length (q.hs.getD a.at_.toNat []) (q.vs.getD t (fun _ => 0)) (q.logs.getD (a.at_.toNat / 8) (0, [])).2.length (q.ak t) t a c := rfl
 rw [hq]
 rcases effL_alike q.hs.length (q.hs.getD a.at_.toNat []) (q.vs.getD t (fun _ => 0)) (q.logs.getD (a.at_.toNat / 8) (0, [])).2.length t a c with ⟨e, h1⟩ | h1
 ·rw [h1, h1]
  exact ⟨h.on t _, rfl⟩
 ·rw [h1, h1]
  exact ⟨h.sync (fun n x x' hx hx' => (h.lg n x x' hx hx').2 t ht), rfl⟩
theorem PSim.act {P P' : PW} (h : PSim P P') (t : Nat) : P.act t = P'.act t := by
 unfold PW.act
 rw [h.rows, h.ss]
theorem PSim.ch {P P' : PW} (h : PSim P P') (t : Nat) : P.ch t = P'.ch t := by
 unfold PW.ch chA
 rw [h.act, h.q.hs, h.q.vs]
theorem PSim.cs {P P' : PW} (h : PSim P P') : P.cs = P'.cs := by
 unfold PW.cs
 rw [h.rows]
 exact List.map_congr_left (fun t _ => h.ch t)
theorem PSim.nx {P P' : PW} (h : PSim P P') {t : Nat} (ht : t < P.q.vs.length) (a : AS) (c : Int) : PSim (P.nx t a c) (P'.nx t a c) := by
 obtain ⟨h1, h2⟩ := doq_sim h.q ht (actP a) c
 refine ⟨h1, by show P.rows.modify _ _ = P'.rows.modify _ _; rw [h.rows], ?_, h.ss⟩
 show P.gots.modify t _ = P'.gots.modify t _
 rw [h.gots]
 unfold gotP
 rw [h2]
theorem PSim.next {P P' : PW} (h : PSim P P') {s : Nat × Nat} (ht : s.1 < P.q.vs.length) : PSim (P.next s) (P'.next s) := by
 unfold PW.next
 rw [← h.act]
 cases P.act s.1 with
 | none => exact h
 | some a => exact h.nx ht a s.2
theorem withF_out {f : Int → Int} {L : Nat} {k i : Int} (hk : 0 ≤ k ∧ k < (L : Int)) (hf : ∀ z, (z < 0 ∨ (L : Int) ≤ z) → f z = 0) : ∀ z, (z < 0 ∨ (L : Int) ≤ z) → withF f k i z = 0 := by
 intro z hz
 unfold withF upd
 split
 ·exact hf z hz
 ·show (if z = k then i else f z) = 0
  rw [if_neg oM]
  exact hf z hz
theorem joinF_out {f g : Int → Int} {L : Nat} (hf : ∀ z, (z < 0 ∨ (L : Int) ≤ z) → f z = 0) (hg : ∀ z, (z < 0 ∨ (L : Int) ≤ z) → g z = 0) : ∀ z, (z < 0 ∨ (L : Int) ≤ z) → joinF f g z = 0 := by
 intro z hz
 unfold joinF
 rw [hf z hz, hg z hz]
 rfl
def OutV (L : Nat) (q : MW) : Prop := (∀ l ∈ q.hs, ∀ p ∈ l, ∀ z, (z < 0 ∨ (L : Int) ≤ z) → p.2.2 z = 0) ∧ ∀ f ∈ q.vs, ∀ z, (z < 0 ∨ (L : Int) ≤ z) → f z = 0
theorem OutV.see {L t : Nat} {q : MW} {f : Int → Int} (h : OutV L q) (hf : ∀ z, (z < 0 ∨ (L : Int) ≤ z) → f z = 0) : OutV L ((Eff.seen f).on t q) :=
 ⟨h.1, fun g hg => by
  rcases List.mem_or_eq_of_mem_set (show g ∈ q.vs.set t f from hg) with hm | rfl
  ·exact h.2 g hm
  ·exact hf⟩
theorem OutV.write {L t k : Nat} {q : MW} {f : Int → Int} {m : Msg} {x : W3} (h : OutV L q) (hf : ∀ z, (z < 0 ∨ (L : Int) ≤ z) → f z = 0) (hm : ∀ z, (z < 0 ∨ (L : Int) ≤ z) → m.2.2 z = 0) : OutV L ((Eff.wrote k m f x).on t q) := by
 refine ⟨fun l hl p hp => ?_, (h.see (t := t) hf).2⟩
 obtain ⟨j, hj⟩ := List.mem_iff_getElem?.1 hl
 have hj' : (q.hs.modify k (fun l => l ++ [m]))[j]? = some l := hj
 by_cases e : k = j
 ·rw [← e, mod_at] at hj'
  obtain ⟨l0, h0, rfl⟩ := Option.map_eq_some_iff.1 hj'
  rcases List.mem_append.1 hp with hp | hp
  ·exact h.1 l0 (List.mem_of_getElem? h0) p hp
  ·rw [List.mem_singleton] at hp
   subst hp
   exact hm
 ·rw [mod_ne _ e] at hj'
  exact h.1 l (List.mem_of_getElem? hj') p hp
theorem getD_out {L : Nat} {q : MW} (h : OutV L q) (k i : Nat) : ∀ z, (z < 0 ∨ (L : Int) ≤ z) → ((q.hs.getD k []).getD i msgD).2.2 z = 0 := by
 intro z hz
 rw [List.getD_eq_getElem?_getD (i := i)]
 cases hi : (q.hs.getD k [])[i]? with
 | none => rfl
 | some p =>
  rw [List.getD_eq_getElem?_getD] at hi
  cases hk : q.hs[k]? with
  | none => rw [hk] at hi; simp at hi
  | some l =>
   rw [hk] at hi
   exact h.1 l (List.mem_of_getElem? hk) p (List.mem_of_getElem? hi) z hz
theorem vs_out {L : Nat} {q : MW} (h : OutV L q) (t : Nat) : ∀ z, (z < 0 ∨ (L : Int) ≤ z) → q.vs.getD t (fun _ => 0) z = 0 := by
 intro z hz
 rw [List.getD_eq_getElem?_getD]
 cases hk : q.vs[t]? with
 | none => rfl
 | some f => exact h.2 f (List.mem_of_getElem? hk) z hz
theorem doq_out {L : Nat} {q : MW} (hL : q.hs.length = L) (h : OutV L q) (t : Nat) (a : ActV) (c : Int) : OutV L (q.doq t a c).1 := by
 rw [doq_eff]
 show OutV L ((effQ q t a c).1.on t q)
 unfold effQ effL
 simp only
 by_cases hg : goodB q.hs.length a.op a.at_ = false
 ·rw [if_pos hg]
  exact h
 rw [if_neg hg]
 obtain ⟨g0, g8, gat⟩ := goodB_iff.1 (by simpa using hg)
 by_cases h0 : a.op = 0
 ·rw [if_pos h0]
  exact h
 rw [if_neg h0]
 by_cases h8 : a.op = 8
 ·rw [if_neg oM, if_neg oM, if_neg oM, if_neg oM, if_neg oM, if_neg oM, if_neg oM]
  exact h
 have hk : (0 : Int) ≤ (a.at_.toNat : Int) ∧ (a.at_.toNat : Int) < (L : Int) := by omega
 have hv := vs_out h t
 have hz : ∀ z : Int, (z < 0 ∨ (L : Int) ≤ z) → (fun _ => (0 : Int)) z = 0 := fun _ _ => rfl
 have hm := fun i => getD_out h a.at_.toNat i
 split
 ·exact h.see (withF_out hk hv)
 split
 ·exact h.see (joinF_out (withF_out hk hv) (hm _))
 split
 ·exact h.see (joinF_out (withF_out hk hv) (hm _))
 split
 ·exact h.write (withF_out hk hv) (withF_out hk hz)
 split
 ·exact h.write (withF_out hk hv) (withF_out hk hv)
 split
 ·split
  ·exact h.write (withF_out hk (joinF_out (withF_out hk hv) (hm _))) (withF_out hk (joinF_out (withF_out hk hv) (hm _)))
  ·exact h.see (joinF_out (withF_out hk hv) (hm _))
 split
 ·exact h
 ·exact h
theorem zip_mod {α β γ : Type} (f : α → β → γ) (u : γ → γ) (v : β → β) (hu : ∀ a b, u (f a b) = f a (v b)) : ∀ (t : Nat) (A : List α) (B : List β), (List.zipWith f A B).modify t u = List.zipWith f A (B.modify t v)
 | _, [], B => by simp
 | t, a :: A, [] => by cases t <;> simp
 | 0, a :: A, b :: B => by simp [hu]
 | t + 1, a :: A, b :: B => by simp [zip_mod f u v hu t A B]
theorem nx_of {L t : Nat} {rs : List RowP} {P : PW} {a : AS} {c : Int} (hL : P.q.hs.length = L) (h : P.Of L rs) : (P.nx t a c).Of L rs := by
 obtain ⟨h1, h2⟩ := doq_out hL ⟨h.hv, h.vv⟩ t (actP a) c
 refine ⟨?_, h1, h2⟩
 show P.rows.modify t RowP.nx = List.zipWith _ rs (P.gots.modify t _)
 rw [h.rows]
 exact zip_mod _ _ _ (fun r g => by simp [RowP.nx]) t rs P.gots
theorem PW0_of (ws : List W3) (x : ActsV) : (PW0 ws x).Of ws.length (PW0 ws x).rows := by
 refine ⟨by simp [PW0, List.range_succ, List.replicate_succ], fun l hl p hp z _ => ?_, fun f hf z _ => ?_⟩
 ·obtain ⟨y, _, rfl⟩ := List.mem_map.1 (show l ∈ ws.map (fun y => [(y, (0 : Int), fun _ => (0 : Int))]) from hl)
  rw [List.mem_singleton] at hp
  subst hp
  rfl
 ·obtain rfl := List.eq_of_mem_replicate (show f ∈ List.replicate 3 (fun _ => (0 : Int)) from hf)
  rfl
structure Held (B0 L n : Nat) (W : World) (V : WorldV) (P : PW) : Prop where
 r : V.R W
 s : Shows V P
 i : P.In L 3 n
 rows : RowsB B0 W P
 t : Tab W
 b : B0 ≤ W.heap.size
 g : 0 < B0
 l : 0 < L ∧ L ≤ 12
 al : ∀ r ∈ P.rows, ∀ a ∈ r.l, inI a.l
section
variable {B0 L n : Nat} {W : World} {V : WorldV} {P : PW}
theorem Held.below (h : Held B0 L n W V P) {W' : World} (hb : Below W.heap.size W W') : Held B0 L n W' V P := ⟨h.r.below hb, h.s, h.i, fun r hr => (h.rows r hr).below (hb.mono h.b), h.t.below (hb.mono h.b) h.g, Nat.le_trans h.b hb.size, h.g, h.l, h.al⟩
theorem Held.fit (h : Held B0 L n W V P) (hn : n ≤ 99) : P.Fit := h.i.fits (by have := h.l; omega) oM oM
theorem Held.lens (h : Held B0 L n W V P) : V.ts.length = 3 ∧ V.ss.length = 3 ∧ V.M.mem.vs.length = 3 ∧ V.M.mem.hs.length = L ∧ P.rows.length = 3 ∧ P.ss.length = 3 := by
 have e1 := h.i.rt
 have e2 := h.i.rs
 have e3 := h.s.2.2.2.1
 have e4 := map_len h.s.1.1
 have e5 := map_len h.s.1.2.1
 have e6 := h.i.q.hs
 have e7 := h.i.q.vs
 have e8 := congrArg List.length h.s.2.2.1
 omega
theorem Held.task (h : Held B0 L n W V P) {t : Nat} (ht : t < 3) : ∃ (k : TaskV) (r : RowP), V.ts[t]? = some k ∧ P.rows[t]? = some r ∧ RT r.A r.cap r.l r.i k ∧ k ∈ V.ts := by
 obtain ⟨e1, e2, e3, e4, e5, e6⟩ := h.lens
 have h1 := List.getElem?_eq_getElem (l := V.ts) (i := t) oM
 have h2 := List.getElem?_eq_getElem (l := P.rows) (i := t) oM
 exact ⟨_, _, h1, h2, h.s.2.2.2.2.2 t _ _ h1 h2, List.mem_of_getElem? h1⟩
theorem Held.ss (h : Held B0 L n W V P) (hns : ∀ b ∈ P.ss, b = false) {t : Nat} (ht : t < 3) : V.ss[t]? = some false ∧ P.ss[t]? = some false := by
 obtain ⟨e1, e2, e3, e4, e5, e6⟩ := h.lens
 have hps : P.ss[t]? = some false := by rw [List.getElem?_eq_getElem oM, hns _ (List.getElem_mem oM)]
 exact ⟨by rw [h.s.2.2.1]; exact hps, hps⟩
theorem rows_nxB {t : Nat} {a : AS} {c : Int} (h : RowsB B0 W P) : RowsB B0 W (P.nx t a c) := by
 intro r hr
 obtain ⟨j, hj⟩ := List.mem_iff_getElem?.1 hr
 have hj' : (P.rows.modify t RowP.nx)[j]? = some r := hj
 by_cases e : t = j
 ·subst e
  rw [mod_at] at hj'
  obtain ⟨r0, hr0, rfl⟩ := Option.map_eq_some_iff.1 hj'
  exact h r0 (List.mem_of_getElem? hr0)
 ·rw [mod_ne _ e] at hj'
  exact h r (List.mem_of_getElem? hj')
theorem nx_al {t : Nat} {a : AS} {c : Int} (h : ∀ r ∈ P.rows, ∀ a ∈ r.l, inI a.l) : ∀ r ∈ (P.nx t a c).rows, ∀ a ∈ r.l, inI a.l := by
 intro r hr
 obtain ⟨j, hj⟩ := List.mem_iff_getElem?.1 hr
 have hj' : (P.rows.modify t RowP.nx)[j]? = some r := hj
 by_cases e : t = j
 ·subst e
  rw [mod_at] at hj'
  obtain ⟨r0, hr0, rfl⟩ := Option.map_eq_some_iff.1 hj'
  exact h r0 (List.mem_of_getElem? hr0)
 ·rw [mod_ne _ e] at hj'
  exact h r (List.mem_of_getElem? hj')
theorem held_key (h : Held B0 L n W V P) (hn : n ≤ 99) : Calls Tryz.prog 15 #[(woV V)] W (Ret (.string ⟨P.keyP.toArray⟩) W) := by
 have hf := h.fit hn
 have q := ex_key V W h.r h.t (Nat.lt_of_lt_of_le h.g h.b) (shows_okK h.r h.s hf)
 rw [shows_keyT h.s hf.rg] at q
 exact q
theorem held_out (h : Held B0 L n W V P) (hn : n ≤ 99) : Calls Tryz.prog 14 #[(woV V)] W (Ret (.string ⟨P.outP.toArray⟩) W) := by
 have hf := h.fit hn
 obtain ⟨e1, e2, e3, e4, e5, e6⟩ := h.lens
 have hl := h.l
 have hw := words_okW hf.q
 have hwl : P.q.words.length = V.M.mem.hs.length := by
  have := map_len h.s.1.1
  simp only [MW.words, List.length_map]
  omega
 have q := ex_outcome textW W3.okW V P.q.words W h.r (fun W2 hW => mach_words V.M P.q.words W2 (h.r.below hW).1.1 hwl oM (fun k x hx W3 hR3 => by
   obtain ⟨hi, j, g, g1, g2, g3, g4, rfl, _⟩ := words_at h.s.1 hf.q hx
   exact mach_word V.M k j hi g W3 hR3 g1 g2 g3 g4)) oM oM
  (fun x hx W2 hW => text_any x W2 hx (h.t.below hW (Nat.lt_of_lt_of_le h.g h.b)) (Nat.lt_of_lt_of_le (Nat.lt_of_lt_of_le h.g h.b) hW.size)) hw
  (fun k hk g hg => (hf.gl k.l (by rw [← h.s.2.1]; exact List.mem_map_of_mem hk)).2 g hg) oM
  (fun k hk => by
   have hm : k.l.length = k.m := gots_length (h.r.2.1.2.2.2 k hk).1
   have := (hf.gl k.l (by rw [← h.s.2.1]; exact List.mem_map_of_mem hk)).1
   omega) (by rw [h.s.2.1]; exact hf.ol)
 rw [h.s.2.1] at q
 exact q
theorem held_act (h : Held B0 L n W V P) {t : Nat} {a : AS} {k : TaskV} (ht : t < 3) (hk : V.ts[t]? = some k) (ha : P.act t = some a) (W2 : World) : k.a = a ∧ Calls Tryz.prog 18 #[(tkV k)] W2 (Ret (.tuple #[(acV k.a), .bool true]) W2) := by
 obtain ⟨hps, r, hr, har⟩ := act_some ha
 exact rt_act (h.s.2.2.2.2.2 t k r hk hr) har W2
end
def wol (V : WorldV) : List Value := [.slice ((V).M).mem.pA ((V).M).mem.hs.length ((V).M).mem.pc, .slice ((V).M).mem.vA ((V).M).mem.vs.length ((V).M).mem.vc, .slice ((V).M).ln.fA ((V).M).ln.first.length ((V).M).ln.fc, .slice ((V).M).ln.lA ((V).M).ln.logs.length ((V).M).ln.lc, .map ((V).M).ln.asks, .slice ((V).M).sA ((V).M).steps.length ((V).M).sc, .int .i64 ((V).M).crashes, .slice (V).tA (V).ts.length (V).tc, .slice (V).sA (V).ss.length (V).sc]
theorem box9 {C : Nat} {V : WorldV} {W : World} (h : BoxC C (wol V) W) : W.cell? ⟨C, 0, none⟩ = some (.slice V.M.mem.pA V.M.mem.hs.length V.M.mem.pc) ∧ W.cell? ⟨C, 1, none⟩ = some (.slice V.M.mem.vA V.M.mem.vs.length V.M.mem.vc) ∧ W.cell? ⟨C, 2, none⟩ = some (.slice V.M.ln.fA V.M.ln.first.length V.M.ln.fc) ∧ W.cell? ⟨C, 3, none⟩ = some (.slice V.M.ln.lA V.M.ln.logs.length V.M.ln.lc) ∧ W.cell? ⟨C, 4, none⟩ = some (.map V.M.ln.asks) ∧ W.cell? ⟨C, 5, none⟩ = some (.slice V.M.sA V.M.steps.length V.M.sc) ∧ W.cell? ⟨C, 6, none⟩ = some (.int .i64 V.M.crashes) ∧ W.cell? ⟨C, 7, none⟩ = some (.slice V.tA V.ts.length V.tc) ∧ W.cell? ⟨C, 8, none⟩ = some (.slice V.sA V.ss.length V.sc) ∧ ∀ o, W.frozen? ⟨C, o, none⟩ = false := ⟨h.at (j := 0) rfl, h.at (j := 1) rfl, h.at (j := 2) rfl, h.at (j := 3) rfl, h.at (j := 4) rfl, h.at (j := 5) rfl, h.at (j := 6) rfl, h.at (j := 7) rfl, h.at (j := 8) rfl, h.2.1⟩
section
variable {B0 L n C : Nat} {W : World} {V : WorldV} {P : PW}
theorem WorldV.R.fill {B n : Nat} {l : List Value} (h : V.R W) (hoff : V.off B) (hb : BoxE B n W) (hl : l.length ≤ n) (k : Nat) (hk : k + l.length ≤ n) : V.R (setFrom W B k l) :=
 keep_setFrom (P := fun w => V.R w) (fun _ _ x hc h => WorldV.R.set h hoff hc x) l k hk hb h
theorem Held.fill (h : Held B0 L n W V P) (hoff : V.off C) {U : List Value} (hb : BoxE C U.length W) (hC : B0 ≤ C) : Held B0 L n (setFrom W C 0 U) V P := by
 have hB : Below B0 W (setFrom W C 0 U) := below_setFrom hC _ _ (Below.refl _ _)
 exact ⟨h.r.fill hoff hb (Nat.le_refl _) 0 oM, h.s, h.i, fun r hr => (h.rows r hr).below hB, h.t.below hB h.g, by rw [setFrom_size]; exact h.b, h.g, h.l, h.al⟩
end
theorem act_mem {P : PW} {t : Nat} {a : AS} {r : RowP} (h : P.act t = some a) (hr : P.rows[t]? = some r) : a ∈ r.l := by
 obtain ⟨_, r2, hr2, ha⟩ := act_some h
 rw [hr] at hr2
 injection hr2 with e
 subst e
 exact List.mem_of_getElem? ha
theorem world_held (A : Option Addr) (n cap : Nat) (ws : List W3) (x : ActsV) (w W : World) (hW : Below w.heap.size w W) (hg : 0 < w.heap.size) (ht : Tab w) (hw : ws.length = n) (hr : Rd w w.heap.size 3 A n (ws.flatMap w3c)) (hws : ∀ y ∈ ws, y.okW) (hx : x.R w w.heap.size) (hxo : ∀ k, ∀ a ∈ x.l k, (actP a).new.okW ∧ inI a.l) (h4 : ∀ k, k < 3 → (x.l k).length ≤ 4) (h7 : x.tot 3 ≤ 7) (hn1 : 1 ≤ n) (hn2 : n ≤ 12) :
  Calls Tryz.prog 7 #[.slice A n cap, .agg #[x.sl 0, x.sl 1, x.sl 2]] W fun e w' => ∃ V : WorldV, e = .returned (.tuple #[(woV V), .bool true]) ∧ (Held w.heap.size n 0 w' V (PW0 ws x) ∧ ∀ b ∈ (PW0 ws x).ss, b = false) ∧ Below W.heap.size W w' := by
 refine (world_ok A n cap ws x W hw ((hr.below hW).more hW.size) (fun k hk => ((hx k hk).below hW).more hW.size) h4 h7 hn1 hn2).mono ?_
 rintro e w' ⟨V, rfl, hS, hR, hb⟩
 have hb2 : Below w.heap.size w w' := hW.trans (hb.mono hW.size)
 have hin := PW0_in hws (fun k hk => ⟨by have := h4 k hk; omega, fun a ha => (hxo k a ha).1⟩)
 rw [hw] at hin
 refine ⟨V, rfl, ⟨⟨hR, hS, hin, fun r hr => ?_, ht.below hb2 hg, hb2.size, hg, by omega, fun r hr a ha => ?_⟩, fun b hb => ?_⟩, hb⟩
 ·obtain ⟨k, hk, rfl⟩ := List.mem_map.1 (show r ∈ (List.range 3).map (fun k => (⟨x.A k, x.c k, x.l k, 0⟩ : RowP)) from hr)
  exact (hx k (List.mem_range.1 hk)).below hb2
 ·obtain ⟨k, hk, rfl⟩ := List.mem_map.1 (show r ∈ (List.range 3).map (fun k => (⟨x.A k, x.c k, x.l k, 0⟩ : RowP)) from hr)
  exact (hxo k a ha).2
 ·exact List.eq_of_mem_replicate (show b ∈ List.replicate 3 false from hb)
theorem world_no (A : Option Addr) (n cap : Nat) (x : ActsV) (w : World) (hb : (∃ k, k < 3 ∧ 4 < (x.l k).length) ∨ 7 < x.tot 3 ∨ n = 0 ∨ 12 < n) :
  Calls Tryz.prog 7 #[.slice A n cap, .agg #[x.sl 0, x.sl 1, x.sl 2]] w (Ret (.tuple #[.agg #[.slice none 0 0, .slice none 0 0, .slice none 0 0, .slice none 0 0, .map none, .slice none 0 0, .int .i64 0, .slice none 0 0, .slice none 0 0], .bool false]) w) := by
 obtain ⟨i0, hi0, jz0, jz1, jz2⟩ := info_parts info_code59
 have hi := hide hi0
 have iz0 := hide jz0
 have iz1 := hide jz1
 have iz2 := hide jz2
 have Hb := hide hb
 clear hb hi0 jz0 jz1 jz2
 go_enter Tryz.func7, Tryz.ntmps7
 go_wp2_with fail
 obtain ⟨w1, hw1⟩ : ∃ W : World, W = (w.alloc (.cells #[x.sl 0, x.sl 1, x.sl 2] 25)).alloc (.cells #[.slice none 0 0, .slice none 0 0, .slice none 0 0, .slice none 0 0, .map none, .slice none 0 0, .int .i64 0, .slice none 0 0, .slice none 0 0] 40) := ⟨_, rfl⟩
 have hB1 : Below w.heap.size w w1 := by rw [hw1]; exact ab0
 have hs1 : w.heap.size + 1 + 1 ≤ w1.heap.size := by rw [hw1]; simp
 have hC : BoxC (w.heap.size + 1) [.slice none 0 0, .slice none 0 0, .slice none 0 0, .slice none 0 0, .map none, .slice none 0 0, .int .i64 0, .slice none 0 0, .slice none 0 0] w1 := by rw [hw1]; have q := BoxC.made (w.alloc (.cells #[x.sl 0, x.sl 1, x.sl 2] 25)) #[.slice none 0 0, .slice none 0 0, .slice none 0 0, .slice none 0 0, .map none, .slice none 0 0, .int .i64 0, .slice none 0 0, .slice none 0 0] 40; simpa using q
 have HC := hide hC
 clear hC
 rw [← hw1]
 clear hw1
 go_loopw [15, 6, 7] (fun i m v wr => ∃ (k : Nat) (z : Int), i = .int .i64 z ∧ z = k ∧ k ≤ 3 ∧ m = .int .i64 (x.tot k) ∧ wr.ownsRow w1.heap.size 71 1 v k ((List.range k).map x.cv) ∧ Hid (∀ j, j < k → (x.l j).length ≤ 4) ∧ Hid (Below w1.heap.size w1 wr)) (fun i _ _ _ => 3 - (intOf i).toNat)
 case atStart => exact ⟨0, 0, rfl, rfl, by omega, rfl, World.ownsRow_nil _ _ _ _, hide (fun j h => absurd h oM), hide (Below.refl _ _)⟩
 case round =>
  obtain ⟨k, z, rfl, hz, hk, rfl, hown, H4, HB⟩ := hrel
  by_cases hlt : z < 3
  ·have hk3 : k < 3 := by omega
   have hB0 : Below w1.heap.size w1 wr := HB.out
   have hB0w : Below w.heap.size w wr := hB1.trans (hB0.mono hB1.size)
   have hsr := HB.out.size
   have hidx : (Instr.index 25 (.agg #[x.sl 0, x.sl 1, x.sl 2]) (.int .i64 (k : Int))).run Tryz.prog wr = .ok (.slice (x.A k) (x.l k).length (x.c k)) wr := by
    have h3 : k = 0 ∨ k = 1 ∨ k = 2 := by omega
    rcases h3 with rfl | rfl | rfl <;> rfl
   by_cases hle : 4 < (x.l k).length
   ·have g1 : ((x.l k).length : Int) > 4 := by omega
    have g2 : (4 : Int) < ((x.l k).length : Int) := by omega
    clear hown HB H4 hle
    have hzC : w.heap.size + 1 < w1.heap.size := by omega
    have hzD : w.heap.size + 1 < wr.heap.size := by omega
    have c0 := (hB0.cell (p := ⟨w.heap.size + 1, 0, none⟩) hzC).trans (HC.out.at (j := 0) rfl)
    have c1 := (hB0.cell (p := ⟨w.heap.size + 1, 1, none⟩) hzC).trans (HC.out.at (j := 1) rfl)
    have c2 := (hB0.cell (p := ⟨w.heap.size + 1, 2, none⟩) hzC).trans (HC.out.at (j := 2) rfl)
    have c3 := (hB0.cell (p := ⟨w.heap.size + 1, 3, none⟩) hzC).trans (HC.out.at (j := 3) rfl)
    have c4 := (hB0.cell (p := ⟨w.heap.size + 1, 4, none⟩) hzC).trans (HC.out.at (j := 4) rfl)
    have c5 := (hB0.cell (p := ⟨w.heap.size + 1, 5, none⟩) hzC).trans (HC.out.at (j := 5) rfl)
    have c6 := (hB0.cell (p := ⟨w.heap.size + 1, 6, none⟩) hzC).trans (HC.out.at (j := 6) rfl)
    have c7 := (hB0.cell (p := ⟨w.heap.size + 1, 7, none⟩) hzC).trans (HC.out.at (j := 7) rfl)
    have c8 := (hB0.cell (p := ⟨w.heap.size + 1, 8, none⟩) hzC).trans (HC.out.at (j := 8) rfl)
    have fz2 : ∀ o, wr.frozen? ⟨w.heap.size + 1, o, none⟩ = false := fun o => (hB0.frozen (p := ⟨w.heap.size + 1, o, none⟩) hzC).trans (HC.out.2.1 o)
    go_wp2_with fail
    refine bodyPost_ret (v := .tuple #[.agg #[.slice none 0 0, .slice none 0 0, .slice none 0 0, .slice none 0 0, .map none, .slice none 0 0, .int .i64 0, .slice none 0 0, .slice none 0 0], .bool false]) (by simp [results, Tryz.results7, go_sem]; (try go_simp)) rfl ⟨rfl, ?_⟩
    exact ab0
   have h5 : ∀ j, j < k + 1 → (x.l j).length ≤ 4 := fun j hj => by
    by_cases e : j = k
    ·subst e; omega
    ·exact H4.out j oM
   have H5 := hide h5
   have hle1 : ¬ (((x.l k).length : Int) > 4) := by omega
   have hle' : ¬ ((4 : Int) < ((x.l k).length : Int)) := by omega
   have hsum : ((x.tot k : Nat) : Int) + ((x.l k).length : Int) = ((x.tot (k + 1) : Nat) : Int) := by rw [x.tot_succ]; omega
   have htb : x.tot (k + 1) ≤ 12 := by
    have e4 := x.tot_succ 0
    have e5 := x.tot_succ 1
    have e6 := x.tot_succ 2
    have e7 : x.tot 0 = 0 := rfl
    have h3 : k = 0 ∨ k = 1 ∨ k = 2 := by omega
    rcases h3 with rfl | rfl | rfl
    ·have e1 := h5 0 oM
     simp only [Nat.zero_add, Nat.reduceAdd] at e4 e5 e6 ⊢
     omega
    ·have e1 := h5 0 oM
     have e2 := h5 1 oM
     simp only [Nat.zero_add, Nat.reduceAdd] at e4 e5 e6 ⊢
     omega
    ·have e1 := h5 0 oM
     have e2 := h5 1 oM
     have e3 := h5 2 oM
     simp only [Nat.zero_add, Nat.reduceAdd] at e4 e5 e6 ⊢
     omega
   have hwr : IntKind.i64.wrap (((x.tot k : Nat) : Int) + ((x.l k).length : Int)) = ((x.tot (k + 1) : Nat) : Int) := by rw [hsum]; exact IntWalk.i64_in _ oM
   have Hown := hide hown
   obtain ⟨A9, c9, rfl, hc9, hA9⟩ := own_slice hown
   clear hown HB
   clear h5 H4 hle
   go_wp2_with (first
    | (at_builtin; (refine wpList_append_own _ rfl _ _ 78 rfl w1.heap.size 71 i0 _ 1 16 Tryz.underlying78 hi.out iz0.out iz1.out iz2.out rfl dM (.slice A9 k c9) k ((List.range k).map x.cv) rfl (own_below Hown.out ab0) ⟨wr.heap.size, 0, none⟩ 1 1 [x.cv k] rfl rfl ?o2 ?o3 ?o4 ?o5 ?o6 ?_)))
   case o2 => exact fun j u h => h
   case o3 => rfl
   case o4 => unfold maxLen; omega
   case o5 => omega
   case o6 => exact (by first | omega | (simp; done) | (simp; omega))
   intro v5 w5 how5 hg5 _
   have hB5 : Below w1.heap.size w1 w5 := below_grown (hB0.trans (ab0)) hg5 (own_below Hown.out ab0) (Nat.le_refl _) (by simp; omega)
   have How5 := hide how5
   have HB5 := hide hB5
   clear how5 hB5 hg5
   go_wp2_with fail
   first
    | exact ⟨⟨k + 1, (k : Int) + 1, by go_num, by omega, by omega, rfl, by rw [List.range_succ, List.map_append]; exact How5.out, H5, HB5⟩, by simp [intOf]; omega⟩
    | ((repeat apply Exists.intro); exact ⟨⟨k + 1, (k : Int) + 1, by go_num, by omega, by omega, rfl, by rw [List.range_succ, List.map_append]; exact How5.out, H5, HB5⟩, by simp [intOf]; omega⟩)
  ·obtain rfl : k = 3 := by omega
   obtain rfl : z = 3 := by omega
   have hbb : 7 < x.tot 3 ∨ n = 0 ∨ 12 < n := by
    rcases Hb.out with ⟨k, h1, h2⟩ | h
    ·have := H4.out k h1
     omega
    ·exact h
   have hB0 : Below w1.heap.size w1 wr := HB.out
   have hB0w : Below w.heap.size w wr := hB1.trans (HB.out.mono hB1.size)
   have hsr := HB.out.size
   clear hown hz hk hlt H4 HB Hb
   have hzC : w.heap.size + 1 < w1.heap.size := by omega
   have hzD : w.heap.size + 1 < wr.heap.size := by omega
   have c0 := (hB0.cell (p := ⟨w.heap.size + 1, 0, none⟩) hzC).trans (HC.out.at (j := 0) rfl)
   have c1 := (hB0.cell (p := ⟨w.heap.size + 1, 1, none⟩) hzC).trans (HC.out.at (j := 1) rfl)
   have c2 := (hB0.cell (p := ⟨w.heap.size + 1, 2, none⟩) hzC).trans (HC.out.at (j := 2) rfl)
   have c3 := (hB0.cell (p := ⟨w.heap.size + 1, 3, none⟩) hzC).trans (HC.out.at (j := 3) rfl)
   have c4 := (hB0.cell (p := ⟨w.heap.size + 1, 4, none⟩) hzC).trans (HC.out.at (j := 4) rfl)
   have c5 := (hB0.cell (p := ⟨w.heap.size + 1, 5, none⟩) hzC).trans (HC.out.at (j := 5) rfl)
   have c6 := (hB0.cell (p := ⟨w.heap.size + 1, 6, none⟩) hzC).trans (HC.out.at (j := 6) rfl)
   have c7 := (hB0.cell (p := ⟨w.heap.size + 1, 7, none⟩) hzC).trans (HC.out.at (j := 7) rfl)
   have c8 := (hB0.cell (p := ⟨w.heap.size + 1, 8, none⟩) hzC).trans (HC.out.at (j := 8) rfl)
   have fz2 : ∀ o, wr.frozen? ⟨w.heap.size + 1, o, none⟩ = false := fun o => (hB0.frozen (p := ⟨w.heap.size + 1, o, none⟩) hzC).trans (HC.out.2.1 o)
   by_cases g7 : 7 < x.tot 3
   ·have g1 : ((x.tot 3 : Nat) : Int) > 7 := by omega
    have g2 : (7 : Int) < ((x.tot 3 : Nat) : Int) := by omega
    clear hbb g7
    go_wp2_with fail
    refine bodyPost_ret (v := .tuple #[.agg #[.slice none 0 0, .slice none 0 0, .slice none 0 0, .slice none 0 0, .map none, .slice none 0 0, .int .i64 0, .slice none 0 0, .slice none 0 0], .bool false]) (by simp [results, Tryz.results7, go_sem]; (try go_simp)) rfl ⟨rfl, ?_⟩
    exact ab0
   have g1 : ¬ ((x.tot 3 : Nat) : Int) > 7 := by omega
   have g2 : ¬ (7 : Int) < ((x.tot 3 : Nat) : Int) := by omega
   by_cases g0 : n = 0
   ·subst g0
    clear hbb g7
    go_wp2_with fail
    refine bodyPost_ret (v := .tuple #[.agg #[.slice none 0 0, .slice none 0 0, .slice none 0 0, .slice none 0 0, .map none, .slice none 0 0, .int .i64 0, .slice none 0 0, .slice none 0 0], .bool false]) (by simp [results, Tryz.results7, go_sem]; (try go_simp)) rfl ⟨rfl, ?_⟩
    exact ab0
   have g3 : ((n : Int) == 0) = false := by simpa using g0
   have g3' : (n : Int) ≠ 0 := by omega
   have g4 : (n : Int) > 12 := by omega
   have g4' : (12 : Int) < (n : Int) := by omega
   clear hbb g7 g0
   go_wp2_with fail
   refine bodyPost_ret (v := .tuple #[.agg #[.slice none 0 0, .slice none 0 0, .slice none 0 0, .slice none 0 0, .map none, .slice none 0 0, .int .i64 0, .slice none 0 0, .slice none 0 0], .bool false]) (by simp [results, Tryz.results7, go_sem]; (try go_simp)) rfl ⟨rfl, ?_⟩
   exact ab0
end Go.Proofs.YtnnmenmifphadaaGreatDoor
