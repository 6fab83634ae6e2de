/- A region that draws its order, whose last operations wait for all others: the others may be walked first, as a region of their own. -/
import Derived.Deep.RegionHeld
import Derived.Test.YtfldjbojonbmpaaLib
namespace Go.Proofs.Ytfldjbojonbmpaa
open Go

/-- Operation i waits for operation j, over others perhaps. -/
def waits (ops : Array Oper) : Nat → Nat → Nat → Bool
  | 0, _, _ => false
  | f + 1, i, j => match ops[i]? with
    | none => false
    | some o => o.after.toList.any (fun e => Region.binds .any e && (e.on == j || waits ops f e.on j))
/-- Whatever has come up, what it waits for has come up. -/
def Closed (ops : Array Oper) (l : Array Bool) : Prop := ∀ i o, l.getD i false = true → ops[i]? = some o → ∀ e ∈ o.after, Region.binds .any e = true → l.getD e.on false = true
theorem waits_done {ops : Array Oper} {l : Array Bool} (hc : Closed ops l) : ∀ (f i j : Nat) (o : Oper), ops[i]? = some o → (∀ e ∈ o.after, Region.binds .any e = true → l.getD e.on false = true) → waits ops f i j = true → l.getD j false = true := by
  intro f
  induction f with
  | zero => intro i j o _ _ h; cases h
  | succ f ih =>
    intro i j o ho hall h
    unfold waits at h
    rw [ho] at h
    simp only [List.any_eq_true, Bool.and_eq_true, Bool.or_eq_true, beq_iff_eq] at h
    obtain ⟨e, he, hb, hj⟩ := h
    have he' := Array.mem_toList_iff.1 he
    have hl := hall e he' hb
    rcases hj with rfl | hj
    · exact hl
    · have hon : ∃ o2, ops[e.on]? = some o2 := by
        cases f with
        | zero => cases hj
        | succ f =>
          unfold waits at hj
          cases h2 : ops[e.on]? with
          | none => rw [h2] at hj; cases hj
          | some o2 => exact ⟨o2, rfl⟩
      obtain ⟨o2, ho2⟩ := hon
      exact ih e.on j o2 ho2 (fun e2 h2 hb2 => hc e.on o2 hl ho2 e2 h2 hb2) hj

/-- The first m operations are bound to earlier ones of theirs alone and have no guard; each of the others waits for all of these. -/
def splits (ops pre : Array Oper) : Bool :=
  (List.range ops.size).all fun i => match ops[i]? with
    | none => false
    | some o => if i < pre.size then o.after.toList.all (fun e => decide (e.on < i)) && o.guard.isNone else (List.range pre.size).all fun j => waits ops ops.size i j

/-- What is asked behind the first part: the rest, as a region whose first part is done. -/
def Behind (P : Program) (ops : Array Oper) (m k : Nat) (Q : Exit → Act → World → Prop) : Exit → Act → World → Prop
  | .normal, a, w => ∀ f, wpAny P .any ops Q (f + k) ((List.replicate m true ++ List.replicate k false).toArray) a w
  | e, a, w => Q e a w

variable {P : Program} {ops pre : Array Oper} {Q : Exit → Act → World → Prop}

theorem upon_behind {o : Oper} {m k : Nat} {a : Act} {K K' : Act → World → Prop} {r : Result Next} (hK : ∀ a w, K a w → K' a w)
    (h : o.upon P a K (Behind P ops m k Q) r) : o.upon P a K' Q r := by
  cases r with
  | ok n w' =>
    cases n <;> simp only [Oper.upon] at h ⊢ <;>
      first
        | exact hK _ _ h
        | exact Calls.mono h (fun e w'' he => by cases e <;> first | exact hK _ _ he | exact he)
        | exact Rows.mono h (fun _ _ he => hK _ _ he)
  | halt x w' => cases x <;> simp only [Oper.upon] at h ⊢ <;> exact h

/-- One operation of the first part. -/
theorem wpOp_behind {i m k : Nat} {o : Oper} {a : Act} {w : World} {K K' : Act → World → Prop} (hp : pre[i]? = some o) (ho : ops[i]? = some o) (hg : o.guard = none)
    (hK : ∀ a w, K a w → K' a w) (h : wpOp P pre (Behind P ops m k Q) i K a w) : wpOp P ops Q i K' a w := by
  unfold wpOp at *
  have hw : ∀ y, Region.wanted o y = true := fun y => by unfold Region.wanted; rw [hg]
  simp only [hp, ho, hw, if_true] at h ⊢
  rcases h with h | ⟨h1, h2⟩
  · exact .inl (upon_behind hK h)
  · exact .inr ⟨h1, h2⟩

theorem splits_low (hs : splits ops pre = true) (hz : pre.size ≤ ops.size) {i : Nat} (hi : i < pre.size) : ∃ o, ops[i]? = some o ∧ (∀ e ∈ o.after, e.on < i) ∧ o.guard = none := by
  unfold splits at hs
  rw [List.all_eq_true] at hs
  have h := hs i (List.mem_range.2 (by omega))
  have ho : ops[i]? = some (ops[i]'(by omega)) := Array.getElem?_eq_getElem (by omega)
  rw [ho] at h
  simp only [if_pos hi, Bool.and_eq_true, List.all_eq_true, decide_eq_true_eq, Option.isNone_iff_eq_none] at h
  exact ⟨_, ho, fun e he => h.1 e (Array.mem_toList_iff.2 he), h.2⟩
theorem splits_high (hs : splits ops pre = true) {i j : Nat} (hi : i < ops.size) (hi2 : pre.size ≤ i) (hj : j < pre.size) : waits ops ops.size i j = true := by
  unfold splits at hs
  rw [List.all_eq_true] at hs
  have h := hs i (List.mem_range.2 hi)
  rw [Array.getElem?_eq_getElem hi] at h
  simp only [if_neg (show ¬ i < pre.size by omega), List.all_eq_true, List.mem_range] at h
  exact h j hj

theorem pad_high {l : List Bool} {k i : Nat} (hi : l.length ≤ i) : ((l ++ List.replicate k false).toArray).getD i false = false := by
  simp only [Array.getD, List.size_toArray]
  split
  · simp only [Array.getInternal_eq_getElem, List.getElem_toArray]
    rw [List.getElem_append_right hi]
    simp
  · rfl
theorem pad_low {l : List Bool} {k i : Nat} (d : Bool) (hi : i < l.length) : ((l ++ List.replicate k false).toArray).getD i d = l.toArray.getD i d := by
  simp [Array.getD, hi, List.getElem_append_left hi]
  intro h; omega

/-- Nothing more may come up in the first part: all of it has come up. -/
theorem all_done (hs : splits ops pre = true) (hz : pre.size ≤ ops.size) (hpre : ∀ i, i < pre.size → pre[i]? = ops[i]?) {listed : Array Bool}
    (h : Region.ready .any pre listed = []) : ∀ i, i < pre.size → listed.getD i true = true := by
  intro i
  induction i using Nat.strongRecOn with
  | ind i ih =>
    intro hi
    cases hb : listed.getD i true with
    | true => rfl
    | false =>
      exfalso
      obtain ⟨o, ho, haf, -⟩ := splits_low hs hz hi
      have : i ∈ Region.ready .any pre listed := by
        refine mem_ready.2 ⟨hb, o, (hpre i hi).trans ho, fun e he _ => ?_⟩
        have h1 := ih e.on (haf e he) (by have := haf e he; omega)
        have h0 : e.on < i := haf e he
        have hsz : i < listed.size := by
          rcases Nat.lt_or_ge i listed.size with h' | h'
          · exact h'
          · simp [Array.getD, Nat.not_lt.2 h'] at hb
        simp only [Array.getD, show e.on < listed.size by omega, dif_pos] at h1 ⊢
        exact h1
      rw [h] at this
      cases this

theorem wpAny_behind {k : Nat} (hs : splits ops pre = true) (hz : ops.size = pre.size + k) (hpre : ∀ i, i < pre.size → pre[i]? = ops[i]?) :
    ∀ (fuel : Nat) (l : List Bool) (a : Act) (w : World), l.length = pre.size → Closed ops (l ++ List.replicate k false).toArray → wpAny P .any pre (Behind P ops pre.size k Q) fuel l.toArray a w →
      wpAny P .any ops Q (fuel + k) ((l ++ List.replicate k false).toArray) a w := by
  have hdone : ∀ (l : List Bool), l.length = pre.size → Region.ready .any pre l.toArray = [] → l = List.replicate pre.size true := fun l hl hr => by
    refine List.ext_getElem (by simp [hl]) fun i h1 h2 => ?_
    have h3 := all_done hs (by omega) hpre hr i (by omega)
    simp only [Array.getD, List.size_toArray, h1, dif_pos] at h3
    simpa using h3
  intro fuel
  induction fuel with
  | zero =>
    intro l a w hl hc h
    obtain ⟨h1, h2⟩ := h
    rw [hdone l hl h1]
    exact h2 0
  | succ fuel ih =>
    intro l a w hl hc h
    obtain ⟨h1, h2⟩ := h
    by_cases hr : Region.ready .any pre l.toArray = []
    · have := h1 hr
      rw [hdone l hl hr]
      exact this (fuel + 1)
    · -- something of the first part is still to come: so nothing of the rest may come up
      obtain ⟨i0, hi0⟩ := List.exists_mem_of_ne_nil _ hr
      obtain ⟨hun0, o0, ho0, -⟩ := mem_ready.1 hi0
      have hi0s : i0 < pre.size := (Array.getElem?_eq_some_iff.1 ho0).1
      rw [show fuel + 1 + k = (fuel + k) + 1 by omega]
      have hun0' : ((l ++ List.replicate k false).toArray).getD i0 false = false := by
        have := pad_low (k := k) false (show i0 < l.length by omega)
        rw [this]
        simp only [Array.getD, List.size_toArray, show i0 < l.length by omega, dif_pos] at hun0 ⊢
        exact hun0
      have low : ∀ i, i ∈ Region.ready .any ops (l ++ List.replicate k false).toArray → i < pre.size ∧ i ∈ Region.ready .any pre l.toArray := fun i hi => by
        obtain ⟨hun, o, ho, hall⟩ := mem_ready.1 hi
        have his : i < ops.size := (Array.getElem?_eq_some_iff.1 ho).1
        by_cases hip : i < pre.size
        · refine ⟨hip, mem_ready.2 ⟨?_, o, (hpre i hip).trans ho, fun e he hb => ?_⟩⟩
          · rw [pad_low true (by omega)] at hun; exact hun
          · have h5 := hall e he hb
            obtain ⟨o', ho', haf, -⟩ := splits_low hs (by omega) hip
            rw [ho] at ho'
            injection ho' with ho'
            subst ho'
            rw [pad_low false (by have := haf e he; omega)] at h5
            exact h5
        · exfalso
          have h5 := waits_done hc ops.size i i0 o ho (fun e he hb => hall e he hb) (splits_high hs his (by omega) hi0s)
          rw [hun0'] at h5
          cases h5
      refine ⟨fun h0 => ?_, fun i hi => ?_⟩
      · -- it may come up in the whole too
        exfalso
        obtain ⟨-, o1, ho1, hall1⟩ := mem_ready.1 hi0
        have ho1' := (hpre i0 hi0s).symm.trans ho1
        obtain ⟨o', ho', haf, -⟩ := splits_low hs (by omega) hi0s
        rw [ho1'] at ho'
        injection ho' with ho'
        subst ho'
        have : i0 ∈ Region.ready .any ops (l ++ List.replicate k false).toArray := by
          refine mem_ready.2 ⟨by rw [pad_low true (by omega)]; exact hun0, o1, ho1', fun e he hb => ?_⟩
          rw [pad_low false (by have := haf e he; omega)]
          exact hall1 e he hb
        rw [h0] at this
        cases this
      · obtain ⟨hip, hir⟩ := low i hi
        obtain ⟨o', ho', haf, hg⟩ := splits_low hs (by omega) hip
        refine wpOp_behind ((hpre i hip).trans ho') ho' hg (fun a' w' h' => ?_) (h2 i hir)
        have e1 : (l.toArray).setIfInBounds i true = (l.set i true).toArray := by simp
        have e2 : ((l ++ List.replicate k false).toArray).setIfInBounds i true = (l.set i true ++ List.replicate k false).toArray := by
          simp [List.set_append_left i true (show i < l.length by omega)]
        rw [e1] at h'
        rw [e2]
        refine ih _ _ _ (by simpa using hl) (fun j oj hj hoj e he hb => ?_) h'
        rw [← e2] at hj ⊢
        obtain ⟨-, oi, hoi, hall⟩ := mem_ready.1 hir
        have hmono : ∀ q, ((l ++ List.replicate k false).toArray).getD q false = true → (((l ++ List.replicate k false).toArray).setIfInBounds i true).getD q false = true := fun q hq => by
          by_cases hqi : i = q
          · subst hqi
            have : i < ((l ++ List.replicate k false).toArray).size := by simp; omega
            simp only [Array.getD, Array.size_setIfInBounds, this, dif_pos]
            simp
          · rw [getD_set_ne false hqi]; exact hq
        by_cases hji : j = i
        · subst hji
          rw [hpre j hip] at hoi
          rw [hoi] at hoj
          injection hoj with hoj
          subst hoj
          have h5 := hall e he hb
          rw [ho'] at hoi
          injection hoi with hoi
          subst hoi
          refine hmono _ ?_
          rw [pad_low false (by have := haf e he; omega)]
          exact h5
        · rw [getD_set_ne false (Ne.symm hji)] at hj
          exact hmono _ (hc j oj hj hoj e he hb)

/-- **The beginning**: the first part as a region of its own; behind it the rest. -/
theorem wp_region_parts {id : Nat} {a : Act} {w : World} (pre : List Oper) (m k : Nat) (S : World → Prop) (hm : P.follows .mixedOrders = true) (hp : ops.toList.take m = pre) (hl : pre.length = m) (hz : ops.size = m + k) (hs : splits ops pre.toArray = true) (hS : S w.drew)
    (h : S w.drew → wpAnyH P .any pre.toArray (Behind P ops m k Q) S m (Array.replicate m false) a w.drew) : (Code.region id ops true).wp P Q a w := by
  refine wp_region_any hm ?_
  have h1 := wpAny_of_held _ _ _ _ (h hS)
  have hsz : pre.toArray.size = m := by simpa using hl
  have hpre : ∀ i, i < pre.toArray.size → pre.toArray[i]? = ops[i]? := fun i hi => by
    rw [List.getElem?_toArray, ← hp, List.getElem?_take, if_pos (by omega), Array.getElem?_toList]
  have h2 := wpAny_behind (Q := Q) (k := k) hs (by omega) hpre m (List.replicate m false) a w.drew (by simp [hsz]) (fun i o hi => by rw [List.replicate_append_replicate] at hi; exfalso; simp [Array.getD] at hi) (by rw [List.toArray_replicate, hsz]; exact h1)
  rw [List.replicate_append_replicate, List.toArray_replicate, ← hz] at h2
  exact h2
end Go.Proofs.Ytfldjbojonbmpaa
