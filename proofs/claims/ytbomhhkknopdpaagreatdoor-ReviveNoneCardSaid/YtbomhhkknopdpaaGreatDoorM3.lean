/- The law's memory: what it describes, told; Plan, holders, alike. -/
import Derived.Test.YtbomhhkknopdpaaGreatDoorR4
import Derived.Test.YtbomhhkknopdpaaGreatDoorM1
import Derived.Test.YtbomhhkknopdpaaGreatDoorM2
import Derived.Test.YtbomhhkknopdpaaGreatDoorR8
namespace Go.Proofs.YtbomhhkknopdpaaGreatDoor
set_option linter.unusedSimpArgs false
set_option linter.unusedVariables false
open Go.RowKit
theorem plan_ok (w : World) : Calls Tryz.prog 5 #[] w fun e w' => e = .returned (.agg #[.int .i64 3, .int .i64 8, .int .i64 2]) ∧ Below w.heap.size w w' := by
  go_enter Tryz.func5, Tryz.ntmps5
  go_wp2_with fail
  exact bodyPost_ret (v := .agg #[.int .i64 3, .int .i64 8, .int .i64 2]) (by simp [results, Tryz.results5, go_sem]) rfl ⟨rfl, (by repeat' (first | with_reducible exact Below.refl _ _ | with_reducible assumption | with_reducible refine Below.alloc ?_ ?_ _ | with_reducible refine Below.setCell ?_ ?_ _ | with_reducible refine Below.drew ?_ | with_reducible refine below_drewN ?_ _ | with_reducible refine Below.trans ?_ (Below.mono (by with_reducible assumption) ?_) | omega | (simp <;> omega)))⟩
def holdersL : List Int := [1, 2, 3, 9, 10]
theorem holders_ok (w : World) : Calls Tryz.prog 16 #[] w fun e w' => ∃ g : Nat, e = .returned (.slice (some ⟨g, 0, none⟩) 5 5) ∧ (∀ k : Nat, k < 5 → w'.cell? ⟨g, k, none⟩ = some (.int .i64 (holdersL.getD k 0))) ∧ w.heap.size ≤ g ∧ g < w'.heap.size ∧ Below w.heap.size w w' := by
  go_enter Tryz.func16, Tryz.ntmps16
  go_wp2_with fail
  go_ret
  refine ⟨w.heap.size, rfl, fun k hk => ?_, Nat.le_refl _, by simp, (by repeat' (first | with_reducible exact Below.refl _ _ | with_reducible assumption | with_reducible refine Below.alloc ?_ ?_ _ | with_reducible refine Below.setCell ?_ ?_ _ | with_reducible refine Below.drew ?_ | with_reducible refine below_drewN ?_ _ | with_reducible refine Below.trans ?_ (Below.mono (by with_reducible assumption) ?_) | omega | (simp <;> omega)))⟩
  match k, hk with
  | 0, _ => go_simp; rfl
  | 1, _ => go_simp; rfl
  | 2, _ => go_simp; rfl
  | 3, _ => go_simp; rfl
  | 4, _ => go_simp; rfl
theorem valid382 : Valid 3 8 2 := ⟨⟨by decide, by decide, by decide, by decide, by decide, by decide⟩, by decide⟩
theorem from382 : fromL 3 8 2 7 = ((448 : Nat) : Int) := by decide
/-- A slot, told. -/
structure Sl where
  st : Int
  sq : Int
  at_ : List Int
  old : List W3
  nw : List Int
  wr : Bool
structure Ce where
  v : Int
  ver : Int
  who : Int
  sq : Int
def entOf (s : Sl) (k : Nat) (n : Int) : En := ⟨atL 3 8 2 3 n 0, ⟨(s.old.getD k z3).v, (s.old.getD k z3).r % 9, 0⟩, if s.wr = true then s.nw.getD k 0 else (s.old.getD k z3).v, s.wr⟩
def entStep (s : Sl) (acc : Int × List En) (k : Nat) : Int × List En :=
  if acc.1 < s.at_.getD k 0 % 8 ∧ k < s.old.length ∧ k < s.nw.length ∧ k < 4 then (s.at_.getD k 0 % 8, acc.2 ++ [entOf s k (s.at_.getD k 0 % 8)]) else acc
def entsTo (s : Sl) (k : Nat) : Int × List En := (List.range k).foldl (entStep s) (-1, [])
theorem entsTo_succ (s : Sl) (k : Nat) : entsTo s (k + 1) = entStep s (entsTo s k) k := by unfold entsTo; rw [List.range_succ, List.foldl_append]; rfl
def slWho (i : Nat) : Int := holdersL.getD i 0
def putAll (p : Nat) (ws : List W3) (o : List W3) (k : Nat) : List W3 := (List.range k).foldl (fun o j => o.set (p + j) (ws.getD j z3)) o
theorem putAll_succ (p : Nat) (ws o : List W3) (k : Nat) : putAll p ws o (k + 1) = (putAll p ws o k).set (p + k) (ws.getD k z3) := by unfold putAll; rw [List.range_succ, List.foldl_append]; rfl
theorem putAll_len (p : Nat) (ws o : List W3) (k : Nat) : (putAll p ws o k).length = o.length := by
  induction k with
  | zero => rfl
  | succ k ih => rw [putAll_succ, List.length_set, ih]
def slOut (i : Nat) (s : Sl) : Bool := decide (checkD 3 8 2 (slWho i) (s.sq % 9 + 1) (s.st % 4) (entsTo s s.at_.length).2 = 0)
def slWords (s : Sl) : List W3 := dwordsL (s.sq % 9 + 1) (s.st % 4) (entsTo s s.at_.length).2
def slStep (l : List Sl) (o : List W3) (i : Nat) : List W3 :=
  match l[i]? with
  | none => o
  | some s => if slOut i s = true then putAll (placeL 3 8 2 (slWho i)).toNat (slWords s) o (slWords s).length else o
def slotsOut (l : List Sl) (o : List W3) (k : Nat) : List W3 := (List.range k).foldl (slStep l) o
theorem slotsOut_succ (l : List Sl) (o : List W3) (k : Nat) : slotsOut l o (k + 1) = slStep l (slotsOut l o k) k := by unfold slotsOut; rw [List.range_succ, List.foldl_append]; rfl
theorem slStep_len (l : List Sl) (o : List W3) (i : Nat) : (slStep l o i).length = o.length := by
  unfold slStep
  split
  · rfl
  · split
    · exact putAll_len _ _ _ _
    · rfl
theorem slotsOut_len (l : List Sl) (o : List W3) (k : Nat) : (slotsOut l o k).length = o.length := by
  induction k with
  | zero => rfl
  | succ k ih => rw [slotsOut_succ, slStep_len, ih]
def refL (c : Ce) : Int := if c.who % 6 = 0 then 0 else slWho ((c.who % 6).toNat - 1) * 16777216 + (c.sq % 9 + 1)
def ceWord (c : Ce) : W3 := ⟨c.v, c.ver % 9, refL c⟩
def cesOut (l : List Ce) (o : List W3) (k : Nat) : List W3 := (List.range k).foldl (fun o i => match l[i]? with | none => o | some c => o.set (atL 3 8 2 3 (i : Nat) 0).toNat (ceWord c)) o
def recOut (r : Int × Int × Int) (i : Nat) (o : List W3) : List W3 := setV r.2.2 (setV r.2.1 (setV r.1 o (atL 3 8 2 2 (i : Nat) 0)) (atL 3 8 2 2 (i : Nat) 0 + 1)) (atL 3 8 2 2 (i : Nat) 0 + 2)
def recsOut (l : List (Int × Int × Int)) (o : List W3) (k : Nat) : List W3 := (List.range k).foldl (fun o i => match l[i]? with | none => o | some r => recOut r i o) o
def overOut (l : List W3) (ats : List Int) (o : List W3) (k : Nat) : List W3 := (List.range k).foldl (fun o i => match l[i]? with | none => o | some y => match ats[i]? with | none => o | some a => o.set (a % 448).toNat y) o
/-- The words of a memory. -/
def makeL (sl : List Sl) (ce : List Ce) (re : List (Int × Int × Int)) (ov : List W3) (ats : List Int) : List W3 :=
  overOut ov ats (recsOut re (cesOut ce (slotsOut sl (firstL 3 8 2) sl.length) ce.length) re.length) ov.length
theorem cesOut_succ (l : List Ce) (o : List W3) (k : Nat) : cesOut l o (k + 1) = match l[k]? with | none => cesOut l o k | some c => (cesOut l o k).set (atL 3 8 2 3 (k : Nat) 0).toNat (ceWord c) := by unfold cesOut; rw [List.range_succ, List.foldl_append]; rfl
theorem recsOut_succ (l : List (Int × Int × Int)) (o : List W3) (k : Nat) : recsOut l o (k + 1) = match l[k]? with | none => recsOut l o k | some r => recOut r k (recsOut l o k) := by unfold recsOut; rw [List.range_succ, List.foldl_append]; rfl
theorem overOut_succ (l : List W3) (ats : List Int) (o : List W3) (k : Nat) : overOut l ats o (k + 1) = match l[k]? with | none => overOut l ats o k | some y => match ats[k]? with | none => overOut l ats o k | some a => (overOut l ats o k).set (a % 448).toNat y := by unfold overOut; rw [List.range_succ, List.foldl_append]; rfl
theorem cesOut_len (l : List Ce) (o : List W3) (k : Nat) : (cesOut l o k).length = o.length := by
  induction k with
  | zero => rfl
  | succ k ih => rw [cesOut_succ]; split <;> simp [ih]
theorem recOut_len (r : Int × Int × Int) (i : Nat) (o : List W3) : (recOut r i o).length = o.length := by unfold recOut; rw [setV_len, setV_len, setV_len]
theorem recsOut_len (l : List (Int × Int × Int)) (o : List W3) (k : Nat) : (recsOut l o k).length = o.length := by
  induction k with
  | zero => rfl
  | succ k ih => rw [recsOut_succ]; split <;> simp [ih, recOut_len]
theorem overOut_len (l : List W3) (ats : List Int) (o : List W3) (k : Nat) : (overOut l ats o k).length = o.length := by
  induction k with
  | zero => rfl
  | succ k ih => rw [overOut_succ]; split <;> (try split) <;> simp [ih]
theorem first382_len : (firstL 3 8 2).length = 448 := by rw [firstL_len, from382]; rfl
theorem makeL_len (sl : List Sl) (ce : List Ce) (re : List (Int × Int × Int)) (ov : List W3) (ats : List Int) : (makeL sl ce re ov ats).length = 448 := by
  unfold makeL
  rw [overOut_len, recsOut_len, cesOut_len, slotsOut_len, first382_len]
/-- What lies in the memory for a slot. -/
def SlR (w : World) (B : Nat) (cs : List Value) (s : Sl) : Prop := ∃ (Aa : Option Addr) (ca : Nat) (Ao : Option Addr) (co : Nat) (An : Option Addr) (cn : Nat),
  cs = [.int .u8 s.st, .int .u16 s.sq, .slice Aa s.at_.length ca, .slice Ao s.old.length co, .slice An s.nw.length cn, .bool s.wr] ∧ Rd w B 1 Aa s.at_.length (s.at_.map (Value.int .u8)) ∧ Rd w B 3 Ao s.old.length (s.old.flatMap w3c) ∧ Rd w B 1 An s.nw.length (s.nw.map (Value.int .i64))
def Sl.ok (s : Sl) : Prop := (0 ≤ s.st ∧ s.st < 256) ∧ (0 ≤ s.sq ∧ s.sq < 65536) ∧ (∀ a ∈ s.at_, 0 ≤ a ∧ a < 256) ∧ (∀ x ∈ s.old, x.ok) ∧ (∀ v ∈ s.nw, i64ok v) ∧ s.at_.length ≤ maxLen ∧ s.old.length ≤ maxLen ∧ s.nw.length ≤ maxLen
def SlsR (w : World) (B : Nat) (A : Option Addr) (l : List Sl) : Prop := ∀ i s, l[i]? = some s → ∃ b off, A = some ⟨b, off, none⟩ ∧ b < B ∧ ∃ cs, SlR w B cs s ∧ ∀ j u, cs[j]? = some u → w.cell? ⟨b, off + i * 6 + j, none⟩ = some u
def cec (c : Ce) : List Value := [.int .i64 c.v, .int .u8 c.ver, .int .u8 c.who, .int .u16 c.sq]
def Ce.ok (c : Ce) : Prop := i64ok c.v ∧ (0 ≤ c.ver ∧ c.ver < 256) ∧ (0 ≤ c.who ∧ c.who < 256) ∧ (0 ≤ c.sq ∧ c.sq < 65536)
def rec3 (r : Int × Int × Int) : List Value := [.int .i64 r.1, .int .i64 r.2.1, .int .i64 r.2.2]
/-- The law's argument, as it lies in the memory. -/
structure MemArg where
  As : Option Addr
  cs : Nat
  sl : List Sl
  Ac : Option Addr
  cc : Nat
  ce : List Ce
  Ar : Option Addr
  cr : Nat
  re : List (Int × Int × Int)
  Ao : Option Addr
  co : Nat
  ov : List W3
  Aa : Option Addr
  ca : Nat
  ats : List Int
def MemArg.val (m : MemArg) : Value := .agg #[.slice m.As m.sl.length m.cs, .slice m.Ac m.ce.length m.cc, .slice m.Ar m.re.length m.cr, .slice m.Ao m.ov.length m.co, .slice m.Aa m.ats.length m.ca]
def MemArg.In (m : MemArg) (w : World) (B : Nat) : Prop := SlsR w B m.As m.sl ∧ Rd w B 4 m.Ac m.ce.length (m.ce.flatMap cec) ∧ Rd w B 3 m.Ar m.re.length (m.re.flatMap rec3) ∧ Rd w B 3 m.Ao m.ov.length (m.ov.flatMap w3c) ∧ Rd w B 1 m.Aa m.ats.length (m.ats.map (Value.int .u16))
def MemArg.ok (m : MemArg) : Prop := (∀ s ∈ m.sl, s.ok) ∧ (∀ c ∈ m.ce, c.ok) ∧ (∀ r ∈ m.re, i64ok r.1 ∧ i64ok r.2.1 ∧ i64ok r.2.2) ∧ (∀ x ∈ m.ov, x.ok) ∧ (∀ a ∈ m.ats, 0 ≤ a ∧ a < 65536) ∧ m.sl.length ≤ maxLen ∧ m.ce.length ≤ maxLen ∧ m.re.length ≤ maxLen ∧ m.ov.length ≤ maxLen ∧ m.ats.length ≤ maxLen
def MemArg.fits (m : MemArg) : Bool := decide (m.sl.length ≤ 5) && decide (m.ce.length ≤ 8) && decide (m.re.length ≤ 3) && decide (m.ov.length ≤ 10)
def MemArg.words (m : MemArg) : List W3 := makeL m.sl m.ce m.re m.ov m.ats
theorem SlR.below {w w' : World} {B : Nat} {cs : List Value} {s : Sl} (h : SlR w B cs s) (hb : Below B w w') : SlR w' B cs s := by
  obtain ⟨Aa, ca, Ao, co, An, cn, e, h1, h2, h3⟩ := h
  exact ⟨Aa, ca, Ao, co, An, cn, e, h1.below hb, h2.below hb, h3.below hb⟩
theorem SlsR.below {w w' : World} {B : Nat} {A : Option Addr} {l : List Sl} (h : SlsR w B A l) (hb : Below B w w') : SlsR w' B A l := fun i s hs => by
  obtain ⟨b, off, e, hB, cs, hc, hj⟩ := h i s hs
  exact ⟨b, off, e, hB, cs, hc.below hb, fun j u hu => (hb.cell (p := ⟨b, off + i * 6 + j, none⟩) hB).trans (hj j u hu)⟩
theorem MemArg.In.below {m : MemArg} {w w' : World} {B : Nat} (h : m.In w B) (hb : Below B w w') : m.In w' B := ⟨h.1.below hb, h.2.1.below hb, h.2.2.1.below hb, h.2.2.2.1.below hb, h.2.2.2.2.below hb⟩
end Go.Proofs.YtbomhhkknopdpaaGreatDoor
