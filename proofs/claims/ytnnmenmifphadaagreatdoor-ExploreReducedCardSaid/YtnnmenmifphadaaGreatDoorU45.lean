/- The search that remembers finds just what lies on all the paths. -/
import Derived.Test.YtnnmenmifphadaaGreatDoorU44
set_option linter.unusedSimpArgs false
set_option linter.unusedVariables false
set_option maxRecDepth 100000
set_option maxHeartbeats 40000000
namespace Go.Proofs.YtnnmenmifphadaaGreatDoor
open Go.RowKit Go.Maps Go.Sort
def StrT (D : DataW Unit) : Prop := ∃ es, D = .map es ∧ es.Pairwise (fun p q => p.1 ≠ q.1) ∧ ∀ p ∈ es, ∃ x, p.1 = .string x
theorem nodup_len {α : Type} [DecidableEq α] : ∀ {l l' : List α}, l.Nodup → (∀ x ∈ l, x ∈ l') → l.length ≤ l'.length
 | [], _, _, _ => Nat.zero_le _
 | x :: l, l', hn, h => by
  obtain ⟨h1, h2⟩ := List.nodup_cons.1 hn
  have hx := h x List.mem_cons_self
  have h3 := nodup_len (l' := l'.erase x) h2 (fun y hy => (List.mem_erase_of_ne (fun e => h1 (by rw [← e]; exact hy))).2 (h y (List.mem_cons_of_mem _ hy)))
  rw [List.length_erase_of_mem hx] at h3
  have := List.length_pos_of_mem hx
  rw [List.length_cons]
  omega
theorem StrT.tidy {D : DataW Unit} (h : StrT D) : Tidy D := by
 obtain ⟨es, h1, h2, _⟩ := h
 exact ⟨es, h1, h2⟩
theorem StrT.isMap {D : DataW Unit} (h : StrT D) : IsMap D := h.tidy.isMap
theorem strT_empty : StrT (.map []) := ⟨[], rfl, List.Pairwise.nil, by simp⟩
theorem StrT.put {D : DataW Unit} (h : StrT D) (k : List UInt8) (d : DataW Unit) : StrT (D.put (.string k) d) := by
 obtain ⟨es', e', hp'⟩ := h.tidy.put (k := .string k) (by trivial) d
 obtain ⟨es, rfl, hp, hs⟩ := h
 refine ⟨es', e', hp', fun p hm => ?_⟩
 have e : es' = DataW.insert (.string k, d) (es.filter fun p => !p.1.sameKey (.string k)) := by
  have e2 : DataW.map (DataW.insert (.string k, d) (es.filter fun p => !p.1.sameKey (.string k))) = DataW.map es' := e'
  injection e2 with e2
  exact e2.symm
 rw [e] at hm
 rcases List.mem_cons.1 ((Go.WideShapes.insert_perm _ _).mem_iff.1 hm) with rfl | hm
 ·exact ⟨k, rfl⟩
 ·exact hs p (List.mem_filter.1 hm).1
theorem StrT.nodup {D : DataW Unit} (h : StrT D) : (strKeys D).Nodup := by
 obtain ⟨es, rfl, hp, hs⟩ := h
 show (es.map fun p => strOf p.1).Nodup
 refine List.pairwise_map.2 (hp.imp_of_mem fun {p q} hp' hq' hne e => hne ?_)
 obtain ⟨a, ha⟩ := hs p hp'
 obtain ⟨b, hb⟩ := hs q hq'
 rw [ha, hb] at e ⊢
 exact congrArg _ e
theorem StrT.mem {D : DataW Unit} (h : StrT D) (x : List UInt8) : x ∈ strKeys D ↔ has D (.string x) = true := by
 obtain ⟨es, rfl, hp, hs⟩ := h
 rw [has_eq, List.any_eq_true]
 show x ∈ es.map (fun p => strOf p.1) ↔ _
 rw [List.mem_map]
 constructor
 ·rintro ⟨p, hp', rfl⟩
  obtain ⟨a, ha⟩ := hs p hp'
  exact ⟨p, hp', by rw [ha]; simp [Lit.sameKey, strOf]⟩
 ·rintro ⟨p, hp', hk⟩
  obtain ⟨a, ha⟩ := hs p hp'
  rw [ha] at hk
  exact ⟨p, hp', by rw [ha]; simpa [Lit.sameKey, strOf] using hk⟩
theorem StrT.len {D : DataW Unit} (h : StrT D) : (strKeys D).length = Maps.size D := by
 obtain ⟨es, rfl, _, _⟩ := h
 simp [strKeys, Maps.size]
theorem StrT.perm {D D' : DataW Unit} (h : StrT D) (h' : StrT D') (e : ∀ x, has D (.string x) = true ↔ has D' (.string x) = true) : (strKeys D).Perm (strKeys D') :=
 (List.perm_ext_iff_of_nodup h.nodup h'.nodup).2 fun x => by rw [h.mem, h'.mem, e]
theorem has_put_iff {D : DataW Unit} (h : IsMap D) {k x : List UInt8} {d : DataW Unit} : has (D.put (.string k) d) (.string x) = true ↔ has D (.string x) = true ∨ x = k := by
 by_cases e : x = k
 ·subst e
  exact ⟨fun _ => .inr rfl, fun _ => has_put_same h (by trivial) d⟩
 ·rw [has_put_other (fun he => e (by injection he))]
  exact ⟨fun h => .inl h, fun h => h.resolve_right e⟩
section
variable {X : Type}
abbrev stpE (E : Expl X) (x : X) : List (Nat × Nat) := stpTo (E.cs x) (E.cs x).length
def treeE (E : Expl X) : Nat → X → List X
 | 0, x => [x]
 | n + 1, x => x :: (stpE E x).flatMap (fun s => treeE E n (E.next x s))
structure AlikeE (E : Expl X) (Ok : X → Prop) (rk : X → Nat) : Prop where
 next : ∀ {x : X} {s : Nat × Nat}, Ok x → s ∈ stpE E x → Ok (E.next x s) ∧ rk (E.next x s) + 1 = rk x
 alike : ∀ {x y : X}, Ok x → Ok y → E.key x = E.key y → E.cs x = E.cs y ∧ E.out x = E.out y ∧ rk x = rk y ∧ ∀ s ∈ stpE E x, E.key (E.next x s) = E.key (E.next y s)
variable {E : Expl X} {Ok : X → Prop} {rk : X → Nat}
abbrev TE (E : Expl X) (rk : X → Nat) (x : X) : List X := treeE E (rk x) x
theorem tree_mem (h : AlikeE E Ok rk) {x y : X} (hx : Ok x) : y ∈ TE E rk x ↔ y = x ∨ ∃ s ∈ stpE E x, y ∈ TE E rk (E.next x s) := by
 unfold TE
 cases hr : rk x with
 | zero =>
  have e : stpE E x = [] := by
   cases hs : stpE E x with
   | nil => rfl
   | cons s l =>
    have := (h.next (s := s) hx (by rw [hs]; exact List.mem_cons_self)).2
    omega
  rw [e]
  show y ∈ [x] ↔ _
  simp
 | succ n =>
  show y ∈ x :: (stpE E x).flatMap (fun s => treeE E n (E.next x s)) ↔ _
  rw [List.mem_cons, List.mem_flatMap]
  constructor
  ·rintro (rfl | ⟨s, hs, hy⟩)
   ·exact .inl rfl
   ·exact .inr ⟨s, hs, by have := (h.next hx hs).2; rwa [show rk (E.next x s) = n by omega]⟩
  ·rintro (rfl | ⟨s, hs, hy⟩)
   ·exact .inl rfl
   ·exact .inr ⟨s, hs, by have := (h.next hx hs).2; rwa [show rk (E.next x s) = n by omega] at hy⟩
theorem tree_self (h : AlikeE E Ok rk) {x : X} (hx : Ok x) : x ∈ TE E rk x := (tree_mem h hx).2 (.inl rfl)
theorem tree_ok (h : AlikeE E Ok rk) : ∀ (n : Nat) {x y : X}, rk x = n → Ok x → y ∈ TE E rk x → Ok y ∧ rk y ≤ n := by
 intro n
 induction n with
 | zero =>
  intro x y hr hx hy
  rcases (tree_mem h hx).1 hy with rfl | ⟨s, hs, _⟩
  ·exact ⟨hx, by omega⟩
  ·have := (h.next hx hs).2
   omega
 | succ n ih =>
  intro x y hr hx hy
  rcases (tree_mem h hx).1 hy with rfl | ⟨s, hs, hy⟩
  ·exact ⟨hx, by omega⟩
  ·obtain ⟨h1, h2⟩ := h.next hx hs
   obtain ⟨h3, h4⟩ := ih oM h1 hy
   exact ⟨h3, by omega⟩
theorem tree_alike (h : AlikeE E Ok rk) : ∀ (n : Nat) {x y z : X}, rk x = n → Ok x → Ok y → E.key x = E.key y → z ∈ TE E rk y → ∃ z' ∈ TE E rk x, E.key z' = E.key z ∧ Ok z' ∧ Ok z := by
 intro n
 induction n with
 | zero =>
  intro x y z hr hx hy hk hz
  obtain ⟨h1, h2, h3, h4⟩ := h.alike hx hy hk
  rcases (tree_mem h hy).1 hz with rfl | ⟨s, hs, _⟩
  ·exact ⟨x, tree_self h hx, hk, hx, hy⟩
  ·have := (h.next hy hs).2
   omega
 | succ n ih =>
  intro x y z hr hx hy hk hz
  obtain ⟨h1, h2, h3, h4⟩ := h.alike hx hy hk
  rcases (tree_mem h hy).1 hz with rfl | ⟨s, hs, hz⟩
  ·exact ⟨x, tree_self h hx, hk, hx, hy⟩
  ·have hs' : s ∈ stpE E x := by unfold stpE; rw [h1]; exact hs
   obtain ⟨g1, g2⟩ := h.next hx hs'
   obtain ⟨z', m, e⟩ := ih oM g1 (h.next hy hs).1 (h4 s hs') hz
   exact ⟨z', (tree_mem h hx).2 (.inr ⟨s, hs', m⟩), e⟩
def CompE (E : Expl X) (rk : X → Nat) (S F : DataW Unit) (x : X) : Prop := (∀ y ∈ TE E rk x, has S (.string (E.key y)) = true) ∧ ∀ y ∈ TE E rk x, stpE E y = [] → has F (.string (E.out y)) = true
theorem CompE.alike (h : AlikeE E Ok rk) {S F : DataW Unit} {x y : X} (hx : Ok x) (hy : Ok y) (hk : E.key x = E.key y) (hc : CompE E rk S F x) : CompE E rk S F y := by
 refine ⟨fun z hz => ?_, fun z hz hs => ?_⟩
 ·obtain ⟨z', m, e, _, _⟩ := tree_alike h _ rfl hx hy hk hz
  rw [← e]
  exact hc.1 z' m
 ·obtain ⟨z', m, e, o1, o2⟩ := tree_alike h _ rfl hx hy hk hz
  obtain ⟨h1, h2, _⟩ := h.alike o1 o2 e
  rw [← h2]
  exact hc.2 z' m (by unfold stpE; rw [h1]; exact hs)
theorem CompE.mono {S F S' F' : DataW Unit} {x : X} (hc : CompE E rk S F x) (h1 : ∀ k, has S (.string k) = true → has S' (.string k) = true) (h2 : ∀ k, has F (.string k) = true → has F' (.string k) = true) : CompE E rk S' F' x :=
 ⟨fun y hy => h1 _ (hc.1 y hy), fun y hy hs => h2 _ (hc.2 y hy hs)⟩
def ClE (E : Expl X) (Ok : X → Prop) (rk : X → Nat) (r : Nat) (S F : DataW Unit) : Prop := ∀ y, Ok y → rk y ≤ r → has S (.string (E.key y)) = true → CompE E rk S F y
structure LeftE (E : Expl X) (Ok : X → Prop) (rk : X → Nat) (most : Int) (T : X → Prop) (r : Nat) (S F S' F' : DataW Unit) (ok : Bool) : Prop where
 s : StrT S'
 f : StrT F'
 ms : ∀ k, has S (.string k) = true → has S' (.string k) = true
 mf : ∀ k, has F (.string k) = true → has F' (.string k) = true
 ns : ∀ k, has S' (.string k) = true → has S (.string k) = true ∨ ∃ y, T y ∧ E.key y = k
 nf : ∀ k, has F' (.string k) = true → has F (.string k) = true ∨ ∃ y, T y ∧ stpE E y = [] ∧ E.out y = k
 no : ok = false → most < (Maps.size S' : Int)
 cl : ok = true → ClE E Ok rk r S' F'
 le : ok = true → (Maps.size S : Int) ≤ most → (Maps.size S' : Int) ≤ most
theorem all_left (h : AlikeE E Ok rk) (most : Int) : ∀ (n : Nat) (x : X) (S F : DataW Unit), rk x < n → Ok x → StrT S → StrT F → ClE E Ok rk (rk x) S F →
  ∃ S' F' ok, allP E most n x S F = some (S', F', ok) ∧ LeftE E Ok rk most (fun y => y ∈ TE E rk x) (rk x) S F S' F' ok ∧ (ok = true → has S' (.string (E.key x)) = true) := by
 intro n
 induction n with
 | zero => intro x S F hr; omega
 | succ n ih =>
  intro x S F hr hx hS hF hC
  rw [allP_succ]
  by_cases hh : has S (.string (E.key x)) = true
  ·rw [if_pos hh]
   exact ⟨S, F, true, rfl, ⟨hS, hF, fun _ h => h, fun _ h => h, fun _ h => .inl h, fun _ h => .inl h, (fun e => by cases e), fun _ => hC, fun _ h => h⟩, fun _ => hh⟩
  rw [if_neg hh]
  obtain ⟨S1, hS1⟩ : ∃ D, D = S.put (.string (E.key x)) (.lit (.bool true)) := ⟨_, rfl⟩
  rw [← hS1]
  have hT1 : StrT S1 := by rw [hS1]; exact hS.put _ _
  have hhas1 : ∀ k, has S1 (.string k) = true ↔ has S (.string k) = true ∨ k = E.key x := fun k => by rw [hS1]; exact has_put_iff hS.isMap
  by_cases hm : most < (Maps.size S1 : Int)
  ·rw [if_pos hm]
   refine ⟨S1, F, false, rfl, ⟨hT1, hF, fun k hk => (hhas1 k).2 (.inl hk), fun _ h => h, fun k hk => ?_, fun _ h => .inl h, fun _ => hm, (fun e => by cases e), (fun e => by cases e)⟩, (fun e => by cases e)⟩
   rcases (hhas1 k).1 hk with h1 | h1
   ·exact .inl h1
   ·exact .inr ⟨x, tree_self h hx, h1.symm⟩
  rw [if_neg hm]
  have hC1 : ∀ F1, (∀ k, has F (.string k) = true → has F1 (.string k) = true) → ∀ y, Ok y → rk y + 1 ≤ rk x → has S1 (.string (E.key y)) = true → CompE E rk S1 F1 y := fun F1 hF1 y hy hry hky => by
   rcases (hhas1 _).1 hky with h1 | h1
   ·exact (hC y hy oM h1).mono (fun k hk => (hhas1 k).2 (.inl hk)) hF1
   ·have := (h.alike hy hx h1).2.2.1
    omega
  -- the steps, one by one
  have hfold : ∀ (l done : List (Nat × Nat)) (S2 F2 : DataW Unit), done ++ l = stpE E x → (∀ k, has S1 (.string k) = true → has S2 (.string k) = true) → StrT S2 → StrT F2 → (Maps.size S2 : Int) ≤ most →
    (∀ y, Ok y → rk y + 1 ≤ rk x → has S2 (.string (E.key y)) = true → CompE E rk S2 F2 y) → (∀ s ∈ done, has S2 (.string (E.key (E.next x s))) = true) →
    ∃ S' F' ok, l.foldl (stepP E most n x) (some (S2, F2, true)) = some (S', F', ok) ∧ LeftE E (fun y => Ok y ∧ rk y + 1 ≤ rk x) rk most (fun y => ∃ s ∈ stpE E x, y ∈ TE E rk (E.next x s)) (rk x) S2 F2 S' F' ok ∧ (ok = true → ∀ s ∈ stpE E x, has S' (.string (E.key (E.next x s))) = true) := by
   intro l
   induction l with
   | nil =>
    intro done S2 F2 hd h1 h2 h3 h4 h5 h6
    rw [List.append_nil] at hd
    exact ⟨S2, F2, true, rfl, ⟨h2, h3, fun _ h => h, fun _ h => h, fun _ h => .inl h, fun _ h => .inl h, (fun e => by cases e), fun _ y hy _ hk => h5 y hy.1 hy.2 hk, fun _ h => h⟩, fun _ => by rw [← hd]; exact h6⟩
   | cons s l ihl =>
    intro done S2 F2 hd h1 h2 h3 h4 h5 h6
    have hs : s ∈ stpE E x := by rw [← hd]; simp
    obtain ⟨g1, g2⟩ := h.next hx hs
    obtain ⟨S3, F3, ok3, e3, L3, k3⟩ := ih (E.next x s) S2 F2 oM g1 h2 h3 (fun y hy hry hk => h5 y hy oM hk)
    rw [List.foldl_cons, show stepP E most n x (some (S2, F2, true)) s = allP E most n (E.next x s) S2 F2 from rfl, e3]
    cases ok3 with
    | false =>
     rw [fold_false]
     exact ⟨S3, F3, false, rfl, ⟨L3.s, L3.f, L3.ms, L3.mf, fun k hk => (L3.ns k hk).imp_right (fun ⟨y, hy, e⟩ => ⟨y, ⟨s, hs, hy⟩, e⟩), fun k hk => (L3.nf k hk).imp_right (fun ⟨y, hy, e⟩ => ⟨y, ⟨s, hs, hy⟩, e⟩), L3.no, (fun e => by cases e), (fun e => by cases e)⟩, (fun e => by cases e)⟩
    | true =>
     obtain ⟨S4, F4, ok4, e4, L4, k4⟩ := ihl (done ++ [s]) S3 F3 (by rw [← hd]; simp) (fun k hk => L3.ms k (h1 k hk)) L3.s L3.f (L3.le rfl h4) (fun y hy hry hk => L3.cl rfl y hy oM hk) (fun s' hs' => by
      rcases List.mem_append.1 hs' with hs' | hs'
      ·exact L3.ms _ (h6 s' hs')
      ·rw [List.mem_singleton] at hs'
       subst hs'
       exact k3 rfl)
     refine ⟨S4, F4, ok4, e4, ⟨L4.s, L4.f, fun k hk => L4.ms k (L3.ms k hk), fun k hk => L4.mf k (L3.mf k hk), fun k hk => ?_, fun k hk => ?_, L4.no, L4.cl, fun e _ => L4.le e (L3.le rfl h4)⟩, k4⟩
     ·rcases L4.ns k hk with h7 | h7
      ·exact (L3.ns k h7).imp_right (fun ⟨y, hy, e⟩ => ⟨y, ⟨s, hs, hy⟩, e⟩)
      ·exact .inr h7
     ·rcases L4.nf k hk with h7 | h7
      ·exact (L3.nf k h7).imp_right (fun ⟨y, hy, e⟩ => ⟨y, ⟨s, hs, hy⟩, e⟩)
      ·exact .inr h7
  obtain ⟨F1, hF1⟩ : ∃ D, D = (if stpTo (E.cs x) (E.cs x).length = [] then F.put (.string (E.out x)) (.lit (.bool true)) else F) := ⟨_, rfl⟩
  rw [← hF1]
  have hF1s : StrT F1 := by
   rw [hF1]
   split
   ·exact hF.put _ _
   ·exact hF
  have hF1m : ∀ k, has F (.string k) = true → has F1 (.string k) = true := fun k hk => by
   rw [hF1]
   split
   ·exact (has_put_iff hF.isMap).2 (.inl hk)
   ·exact hk
  have hF1n : ∀ k, has F1 (.string k) = true → has F (.string k) = true ∨ (stpE E x = [] ∧ E.out x = k) := fun k hk => by
   rw [hF1] at hk
   split at hk
   ·rename_i hz
    rcases (has_put_iff hF.isMap).1 hk with h1 | h1
    ·exact .inl h1
    ·exact .inr ⟨hz, h1.symm⟩
   ·exact .inl hk
  obtain ⟨S', F', ok, e, L, k⟩ := hfold (stpE E x) [] S1 F1 rfl (fun _ h => h) hT1 hF1s oM (hC1 F1 hF1m) (fun s hs => by cases hs)
  have hkx : has S' (.string (E.key x)) = true := L.ms _ ((hhas1 _).2 (.inr rfl))
  have hcx : ok = true → CompE E rk S' F' x := fun hok => by
   refine ⟨fun y hy => ?_, fun y hy hz => ?_⟩
   ·rcases (tree_mem h hx).1 hy with rfl | ⟨s, hs, hy⟩
    ·exact hkx
    ·obtain ⟨g1, g2⟩ := h.next hx hs
     exact (L.cl hok (E.next x s) ⟨g1, by omega⟩ oM (k hok s hs)).1 y hy
   ·rcases (tree_mem h hx).1 hy with rfl | ⟨s, hs, hy⟩
    ·refine L.mf _ ?_
     rw [hF1, if_pos hz]
     exact (has_put_iff hF.isMap).2 (.inr rfl)
    ·obtain ⟨g1, g2⟩ := h.next hx hs
     exact (L.cl hok (E.next x s) ⟨g1, by omega⟩ oM (k hok s hs)).2 y hy hz
  refine ⟨S', F', ok, e, ⟨L.s, L.f, fun k hk => L.ms k ((hhas1 k).2 (.inl hk)), fun k hk => L.mf k (hF1m k hk), fun k hk => ?_, fun k hk => ?_, L.no, fun hok y hy hry hk => ?_, fun hok _ => L.le hok oM⟩, fun _ => hkx⟩
  ·rcases L.ns k hk with h1 | ⟨y, ⟨s, hs, hy⟩, ey⟩
   ·rcases (hhas1 k).1 h1 with h1 | h1
    ·exact .inl h1
    ·exact .inr ⟨x, tree_self h hx, h1.symm⟩
   ·exact .inr ⟨y, (tree_mem h hx).2 (.inr ⟨s, hs, hy⟩), ey⟩
  ·rcases L.nf k hk with h1 | ⟨y, ⟨s, hs, hy⟩, ey⟩
   ·rcases hF1n k h1 with h1 | h1
    ·exact .inl h1
    ·exact .inr ⟨x, tree_self h hx, h1⟩
   ·exact .inr ⟨y, (tree_mem h hx).2 (.inr ⟨s, hs, hy⟩), ey⟩
  ·by_cases hlt : rk y + 1 ≤ rk x
   ·exact L.cl hok y ⟨hy, hlt⟩ hry hk
   ·rcases L.ns _ hk with h1 | ⟨z, ⟨s, hs, hz⟩, ez⟩
    ·rcases (hhas1 _).1 h1 with h1 | h1
     ·exact (hC y hy hry h1).mono (fun k hk => L.ms k ((hhas1 k).2 (.inl hk))) (fun k hk => L.mf k (hF1m k hk))
     ·exact (hcx hok).alike h hx hy h1.symm
    ·obtain ⟨g1, g2⟩ := h.next hx hs
     obtain ⟨g3, g4⟩ := tree_ok h _ rfl g1 hz
     have := (h.alike g3 hy ez).2.2.1
     omega
end
end Go.Proofs.YtnnmenmifphadaaGreatDoor
