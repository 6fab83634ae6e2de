/- A map of truth values; the two spellings of the invariants of chapter 56. -/
import Derived.Test.YtfldjbojonbmpaaDoorRa
import Derived.Test.YtfldjbojonbmpaaDoorR14
import Derived.Test.YtfldjbojonbmpaaDoorMl
namespace Go.Proofs.YtfldjbojonbmpaaDoor
set_option linter.unusedSimpArgs false
set_option linter.unusedVariables false
open Go.RowKit Go.Maps
theorem keyed_int : Keyed Tryd.prog 3 := int_keyed Tryd.underlying3
theorem zero_bool (w : World) : (zeroValue 4).run Tryd.prog w = .ok (.bool false) w := by kernel_rfl
theorem litb_inj {a b : Bool} (h : (DataW.lit (.bool a) : DataW Unit) = .lit (.bool b)) : a = b := by
  injection h with h
  injection h
/-- A map from integers to truth values, at most n entries. -/
def MapT (w : World) (b n : Nat) (f : Int → Bool) : Prop := ∃ D : DataW Unit, w.ownsMap Tryd.prog 3 (plainElem Tryd.prog 4) b n D ∧ IsMap D ∧ ∀ z, (Lit.int .i64 z).wf = true → D.atKey (.int .i64 z) (.lit (.bool false)) = .lit (.bool (f z))
theorem MapT.made_at {w : World} {b : Nat} (hb : b = w.heap.size) : MapT (w.alloc (.map #[] 0)) b 0 (fun _ => false) := by
  rw [hb]
  exact ⟨.map [], World.ownsMap_made _ _ _ _, isMap_empty, fun _ _ => rfl⟩
theorem MapT.below {w w' : World} {b n : Nat} {f : Int → Bool} (h : MapT w b n f) (hb : Below w.heap.size w w') : MapT w' b n f := by
  obtain ⟨D, h1, h2⟩ := h
  exact ⟨D, h1.kept (grown_of_below hb none) (by simp), h2⟩
theorem MapT.mono {w : World} {b n n' : Nat} {f : Int → Bool} (h : MapT w b n f) (hn : n ≤ n') : MapT w b n' f := by
  obtain ⟨D, h1, h2⟩ := h
  exact ⟨D, h1.mono hn, h2⟩
theorem MapT.lt {w : World} {b n : Nat} {f : Int → Bool} (h : MapT w b n f) : b < w.heap.size := by
  obtain ⟨D, ⟨es, clock, h1, _⟩, _⟩ := h
  exact (Array.getElem?_eq_some_iff.1 h1).1
theorem MapT.look {w : World} {b n : Nat} {f : Int → Bool} (h : MapT w b n f) {z : Int} (wz : (Lit.int .i64 z).wf = true) : (Instr.lookup 56 (.map (some b)) (.int .i64 z) false).run Tryd.prog w = .ok (.bool (f z)) w := by
  obtain ⟨D, h1, h2, h3⟩ := h
  obtain ⟨v, ps, hrun, hv⟩ := h1.lookup keyed_int Tryd.underlying56 (zero_bool w) (plainElem_bool Tryd.underlying4 false) (keyOf_int_mk Tryd.underlying3 wz)
  rw [hrun]
  rw [h3 z wz] at hv
  cases v with
  | bool c =>
    rw [plainElem_bool Tryd.underlying4] at hv
    have e := litb_inj (congrArg Prod.fst (Option.some.inj hv))
    rw [e]
  | _ => simp [plainElem, Tryd.underlying4] at hv
def updB (f : Int → Bool) (z : Int) (x : Bool) : Int → Bool := fun y => if y = z then x else f y
theorem MapT.put {w : World} {b n : Nat} {f : Int → Bool} {D : DataW Unit} {z : Int} {x : Bool} (h1 : w.ownsMap Tryd.prog 3 (plainElem Tryd.prog 4) b n (D.put (.int .i64 z) (.lit (.bool x)))) (h2 : IsMap D) (h3 : ∀ z, (Lit.int .i64 z).wf = true → D.atKey (.int .i64 z) (.lit (.bool false)) = .lit (.bool (f z))) : MapT w b n (updB f z x) := by
  refine ⟨_, h1, h2.put _ _, fun y wy => ?_⟩
  unfold updB
  by_cases hy : y = z
  · subst hy
    rw [atKey_put_same h2 (by trivial), if_pos rfl]
  · rw [atKey_put_other (by intro h; injection h with _ h; exact hy h), if_neg hy]
    exact h3 y wy
def fM (a1 a2 a3 a4 a5 : Bool) : Int → Bool := fun z => if z = 1 then a1 else if z = 2 then a2 else if z = 3 then a3 else if z = 4 then a4 else if z = 5 then a5 else false
theorem fM_0 (z : Int) : fM false false false false false z = false := by unfold fM; simp
theorem fM_1 (o : Bool) {a2 a3 a4 a5 x : Bool} : updB (fM o a2 a3 a4 a5) 1 x = fM x a2 a3 a4 a5 := by
  funext z
  unfold updB fM
  by_cases h : z = 1 <;> simp [h]
theorem fM_2 (o : Bool) {a1 a3 a4 a5 x : Bool} : updB (fM a1 o a3 a4 a5) 2 x = fM a1 x a3 a4 a5 := by
  funext z
  unfold updB fM
  by_cases h : z = 2 <;> simp [h]
theorem fM_3 (o : Bool) {a1 a2 a4 a5 x : Bool} : updB (fM a1 a2 o a4 a5) 3 x = fM a1 a2 x a4 a5 := by
  funext z
  unfold updB fM
  by_cases h : z = 3 <;> simp [h]
theorem fM_4 (o : Bool) {a1 a2 a3 a5 x : Bool} : updB (fM a1 a2 a3 o a5) 4 x = fM a1 a2 a3 x a5 := by
  funext z
  unfold updB fM
  by_cases h : z = 4 <;> simp [h]
theorem fM_5 (o : Bool) {a1 a2 a3 a4 x : Bool} : updB (fM a1 a2 a3 a4 o) 5 x = fM a1 a2 a3 a4 x := by
  funext z
  unfold updB fM
  by_cases h : z = 5 <;> simp [h]
/-- The fifth rule is noted. -/
theorem MapT.update5 {w : World} {b : Nat} {a1 a2 a3 a4 : Bool} (h : MapT w b 10 (fM a1 a2 a3 a4 false)) (x : Bool) : ∃ w', (Instr.mapUpdate 56 (.map (some b)) (.int .i64 5) (.bool x)).run Tryd.prog w = .ok () w' ∧ MapT w' b 11 (fM a1 a2 a3 a4 x) ∧ w.grownBy w' (some b) := by
  obtain ⟨D, h1, h2, h3⟩ := h
  obtain ⟨w', hrun, r1, r2⟩ := h1.update keyed_int Tryd.underlying56 (by unfold maxLen; omega) (key := .int .i64 5) (kl := .int .i64 5) (keyOf_int_mk Tryd.underlying3 (by decide)) (plainElem_bool Tryd.underlying4 x)
  exact ⟨w', hrun, fM_5 (a1 := a1) (a2 := a2) (a3 := a3) (a4 := a4) (x := x) false ▸ MapT.put r1 h2 h3, r2⟩
theorem cell_grown {w w' : World} {row : Option Nat} (hg : w.grownBy w' row) {b : Nat} (hb : b < w.heap.size) (hne : row ≠ some b) (o : Nat) : w'.cell? ⟨b, o, none⟩ = w.cell? ⟨b, o, none⟩ := World.cell?_of_block (hg.block b hb (fun e => hne e.symm))
theorem place_at {k : Nat} (hk : k < 5) : ∃ p : Nat, placeA 3 8 2 (holdersL.getD k 0) = (p : Int) ∧ p < 448 ∧ -1000 ≤ holdersL.getD k 0 ∧ holdersL.getD k 0 ≤ 1000 := by
  match k, hk with
  | 0, _ => exact ⟨(placeA 3 8 2 (holdersL.getD 0 0)).toNat, by decide +kernel, by decide +kernel, by decide, by decide⟩
  | 1, _ => exact ⟨(placeA 3 8 2 (holdersL.getD 1 0)).toNat, by decide +kernel, by decide +kernel, by decide, by decide⟩
  | 2, _ => exact ⟨(placeA 3 8 2 (holdersL.getD 2 0)).toNat, by decide +kernel, by decide +kernel, by decide, by decide⟩
  | 3, _ => exact ⟨(placeA 3 8 2 (holdersL.getD 3 0)).toNat, by decide +kernel, by decide +kernel, by decide, by decide⟩
  | 4, _ => exact ⟨(placeA 3 8 2 (holdersL.getD 4 0)).toNat, by decide +kernel, by decide +kernel, by decide, by decide⟩
/-! The invariants in the law's words. -/
def stTo (ws : List W3) (k : Nat) : Bool := (List.range k).all (fun j => decidedR (ws.getD (placeA 3 8 2 (holdersL.getD j 0)).toNat z3))
theorem stTo_succ (ws : List W3) (k : Nat) : stTo ws (k + 1) = (stTo ws k && decidedR (ws.getD (placeA 3 8 2 (holdersL.getD k 0)).toNat z3)) := by unfold stTo; rw [List.range_succ, List.all_append]; simp
def ckL (ws : List W3) : List Bool := [cleanL 3 8 2 ws, recsL 3 8 2 ws 3, stTo ws 5, refBits (ws.getD (fromL 3 8 2 5).toNat z3), clocksL ws]
theorem decided_same (x : W3) : decidedW x = decidedR x := by
  rfl
theorem bits_same (x : W3) (h : x.ok) : bitsOK 2 x = refBits x := by
  unfold bitsOK refBits
  rw [if_neg (by decide), show mk 2 = 3 from rfl, bits_law h.1 h.2.1, Bool.and_comm]
theorem st_same (ws : List W3) : swapsL 3 8 2 ws = stTo ws 5 := by
  unfold swapsL decSlots decBlocks stTo
  simp only [decided_same]
  rw [show (3 : Int).toNat = 3 from rfl, show (2 : Int).toNat = 2 from rfl]
  simp only [List.range_succ, List.range_zero, List.nil_append, List.cons_append, List.all_cons, List.all_nil, Bool.and_true]
  simp only [holdersL, List.getD_cons_zero, List.getD_cons_succ, placeA, Bool.and_assoc]
  rfl
theorem ck_same (ws : List W3) (hok : ∀ x ∈ ws, x.ok) (hl : ws.length = 448) : checkL 3 8 2 ws = outTo (ckL ws) 5 := by
  unfold checkL ckL bitsL
  rw [st_same, show (3 : Int).toNat = 3 from rfl, show (2 : Int).toNat = 2 from rfl]
  rw [bits_same _ (hok _ (List.mem_of_getElem? (get_getD (by rw [hl]; decide))))]
end Go.Proofs.YtfldjbojonbmpaaDoor
