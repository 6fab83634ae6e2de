/- The frame of a law's row that lists package-level variables: if a law's walk ends in true and leaves all old memory as it was, its row holds. No program is named here. -/
import Derived.Deep.DeepHandedRow
import Derived.Lib.LaidTab
import Derived.WalkKit
import Derived.ProofKit
import Derived.OpenShut
set_option linter.unusedSimpArgs false
set_option linter.unusedVariables false
namespace Go.Proofs.YtapjfhbonfehpaaGreatDoor
open Go.ChangeShapes Go.WideShapes Go.ChangeAt Go.RowKit
section
variable {H : Type} {enc : TypeId × Value → H} {P : Program}
theorem nJ (hl : laidOutB P = true) {W W' : World} (hb : Below W.heap.size W W') (sp : Nat → Bool) : ∀ (ts : List TypeId) (vs : List Value) (ds : List (DataW H)) (ps : List MemPlace),
  ts.all (fun t => P.readableRec t && decide (t < P.types.size)) = true → DataW.TrodAll enc P W 0 (fun _ => true) true ts vs ds ps → (∀ x ∈ ps, x.block < W.heap.size) → (∀ x ∈ ps, sp x.block = true) →
  DataW.TrodAll enc P W' 0 sp true ts vs ds ps
 | [], vs, ds, ps, _, h, _, _ => by
  obtain ⟨rfl, rfl, rfl⟩ := trodAll_nil h;exact trodAll_mk0
 | t :: ts, vs, ds, ps, hr, h, hlt, hsp => by
  obtain ⟨v, vs', d, ds', p, q, rfl, rfl, rfl, h1, h2⟩ := trodAll_cons h;rw [List.all_cons, Bool.and_eq_true, Bool.and_eq_true, decide_eq_true_iff] at hr;exact trodAll_cons_mk (WideElems.Trod_stays hl hr.1.1 hr.1.2 h1 (fun x hx => hb.same (hlt x (List.mem_append_left _ hx))) (fun x hx => hsp x (List.mem_append_left _ hx)))
   (nJ hl hb sp ts vs' ds' q hr.2 h2 (fun x hx => hlt x (List.mem_append_right _ hx)) (fun x hx => hsp x (List.mem_append_right _ hx)))
theorem BS {f : Func} {s : ChangeSpec} {apart fresh handsOn again : Bool} {W W' : World} {args : Array Value} {v : Value} {ds gs : List (DataW H)} {before pa pv : List MemPlace}
  (hW : DataW.Whole enc P f.params.toList s.vars apart W args.toList ds gs before)
  (hres : ∀ (b : Nat) (sp : Nat → Bool) (hd : Bool), DataW.TrodAll enc P W' b sp hd f.resultTypes.toList (v.resultList f.resultTypes.size) (s.fn H (ds ++ gs)).results [])
  (hargs : ∀ sp : Nat → Bool, (∀ p ∈ before, sp p.block = true) → DataW.TrodAll enc P W' 0 sp true f.params.toList args.toList (s.fn H (ds ++ gs)).args pa)
  (MK : ∀ sp : Nat → Bool, (∀ p ∈ before, sp p.block = true) → DataW.TrodVars enc P W' sp s.vars (s.fn H (ds ++ gs)).vars pv)
  (hps : before = pa ++ pv) (hb : Below W.heap.size W W')
  (hok : ∀ (j : Nat) (t : TypeId) (r : Value), f.resultTypes[j]? = some t → (v.resultList f.resultTypes.size)[j]? = some r → Value.okWide P W' .any 0 t r) :
  s.post enc P f apart fresh handsOn again W args v W' := by
 have hlt : ∀ p ∈ before, p.block < W.heap.size := fun p hp => hW.lt p hp;have hold : ∀ p ∈ before, (fun b => decide (b < W.heap.size)) p.block = true := fun p hp => by simpa using hlt p hp
 refine ⟨ds, gs, before, [], pa, pv, hW, hres _ _ _, hargs _ hold, MK _ hold, World.keptBut_mono (fun p hp => ⟨hp, ?_⟩) (hb.frame (· ∈ before)), fun _ => ?_⟩
 ·rw [hps, List.mem_append] at hp;exact Or.inr hp
 ·obtain ⟨_, _, _, _, _, hz, hn⟩ := hW;refine ⟨hok, _, _, ([] ++ pa) ++ pv, ⟨[] ++ pa, pv, trodAll_append (hargs _ (fun _ _ => rfl)) (hres _ _ _), MK _ (fun _ _ => rfl), rfl, ?_, ?_⟩, ?_⟩
  ·intro b off hp;have hin : MemPlace.cell b off ∈ before := by rw [hps]; simpa using hp
   rw [hb.frozen (hlt _ hin)];exact hz b off hin
  ·intro ha;have := hn ha;rw [hps] at this;simpa using this
  ·intro p hp _;rw [hps];simpa using hp
end
def JV (s : ChangeSpec) (n : Nat) : Prop :=
 s.vars = [] ∧ ∀ (H : Type) (ds : List (DataW H)), ds.length = n → (s.fn H ds).results = [.lit (.bool true)] ∧ (s.fn H ds).args = ds ∧ (s.fn H ds).vars = []
theorem trodAll_length {H : Type} {enc : TypeId × Value → H} {P : Program} {w : World} {base : Nat} {spare : Nat → Bool} {held : Bool} : ∀ (ts : List TypeId) (vs : List Value) (ds : List (DataW H)) (ps : List MemPlace),
  DataW.TrodAll enc P w base spare held ts vs ds ps → ds.length = ts.length
 | [], vs, ds, ps, h => by
  obtain ⟨rfl, rfl, rfl⟩ := trodAll_nil h;rfl
 | t :: ts, vs, ds, ps, h => by
  obtain ⟨v, vs', d, ds', p, q, rfl, rfl, rfl, h1, h2⟩ := trodAll_cons h;simp [trodAll_length ts vs' ds' q h2]
end Go.Proofs.YtapjfhbonfehpaaGreatDoor
namespace Go.Proofs.YtapjfhbonfehpaaGreatDoor
open Go.ChangeShapes Go.WideShapes Go.ChangeAt Go.RowKit
def A9 (P : Program) (f : FuncId) (ps : Array TypeId) (laid : List (String × DataW Unit)) : Prop :=
 ∀ (H : Type) (enc : TypeId × Value → H) (W : World) (base : Nat) (args : Array Value) (ds : List (DataW H)) (p : List MemPlace),
  (∀ (j : Nat) t v, ps[j]? = some t → args[j]? = some v → Value.okWide P W .any base t v) →
  DataW.TrodAll enc P W 0 (fun _ => true) true ps.toList args.toList ds p → (∀ x ∈ p, x.block < W.heap.size) → laidMetH P laid W →
  Calls P f args W fun e W' => e = .returned (.bool true) ∧ Below W.heap.size W W'
theorem yb {P : Program} {f : FuncId} {fn : Func} {s : ChangeSpec} {tb : TypeId} {H : Type} {enc : TypeId × Value → H} {laid : List (String × DataW Unit)} (laidB : laidOutB P = true)
  (hres : fn.resultTypes = #[tb]) (htb : P.underlying tb = some .bool) (hread : fn.params.toList.all (fun t => P.readableRec t && decide (t < P.types.size)) = true)
  (hs : JV s fn.params.size) (walk : A9 P f fn.params laid)
  (W : World) (base : Nat) (args : Array Value) (ds gs : List (DataW H)) (before : List MemPlace)
  (hval : ∀ (j : Nat) t v, fn.params[j]? = some t → args[j]? = some v → Value.okWide P W .any base t v)
  (hW : DataW.Whole enc P fn.params.toList s.vars false W args.toList ds gs before) (hL : laidMetH P laid W) :
  Calls P f args W fun e W' => ∃ v, e = .returned v ∧ s.post enc P fn false true false false W args v W' := by
 have hlt : ∀ p ∈ before, p.block < W.heap.size := fun p hp => hW.lt p hp;have hW' := hW;obtain ⟨p, q, hA, hV, Ox, hfz, hnd⟩ := hW;have hlen := trodAll_length _ _ _ _ hA;obtain ⟨hv0, hsp⟩ := hs;have hV2 := hV;rw [hv0] at hV2;obtain ⟨rfl, rfl⟩ := trodVars_none hV2;rw [List.append_nil] at Ox;subst Ox;obtain ⟨r1, r2, r3⟩ := hsp H (ds ++ []) (by simpa using hlen);refine (walk H enc W base args ds before hval hA hlt hL).mono fun e W' ⟨he, hb⟩ => ?_;subst he;refine ⟨_, rfl, BS (pa := before) (pv := []) hW' ?_ ?_ ?_ (by simp) hb (ok_one hres rfl (okWide_bool_mk htb _))⟩
 ·intro b sp hd;rw [r1, hres];exact trodAll_mk1 (shut_bool htb true)
 ·intro sp aaQ;rw [r2, List.append_nil];exact nJ laidB hb sp _ _ _ _ hread hA hlt aaQ
 ·intro sp _;rw [r3, hv0];rfl
end Go.Proofs.YtapjfhbonfehpaaGreatDoor
