/- The frame of a law's row that lists package-level variables: if a law's walk ends in true and leaves all old memory as it was, its row holds. No program is named here. -/
import Derived.Deep.DeepHandedRow
import Derived.Lib.LaidTab
import Derived.Test.YtnnmenmifphadaaGreatDoorU01
set_option linter.unusedSimpArgs false
set_option linter.unusedVariables false
namespace Go.Proofs.YtnnmenmifphadaaGreatDoor
open Go.ChangeShapes Go.WideShapes Go.ChangeAt Go.RowKit
def LawWalkL (P : Program) (f : FuncId) (ps : Array TypeId) (laid : List (String × DataW Unit)) : Prop :=
 ∀ (H : Type) (enc : TypeId × Value → H) (W : World) (base : Nat) (args : Array Value) (ds : List (DataW H)) (p : List MemPlace),
  (∀ (j : Nat) t v, ps[j]? = some t → args[j]? = some v → Value.okWide P W .any base t v) →
  DataW.TrodAll enc P W 0 (fun _ => true) true ps.toList args.toList ds p → (∀ x ∈ p, x.block < W.heap.size) → laidMetH P laid W →
  Calls P f args W fun e W' => e = .returned (.bool true) ∧ Below W.heap.size W W'
theorem law_contract {P : Program} {f : FuncId} {fn : Func} {s : ChangeSpec} {tb : TypeId} {H : Type} {enc : TypeId × Value → H} {laid : List (String × DataW Unit)} (laidB : laidOutB P = true)
  (hres : fn.resultTypes = #[tb]) (htb : P.underlying tb = some .bool) (hread : fn.params.toList.all (fun t => P.readableRec t && decide (t < P.types.size)) = true)
  (hs : SaysTrue s fn.params.size) (walk : LawWalkL P f fn.params laid)
  (W : World) (base : Nat) (args : Array Value) (ds gs : List (DataW H)) (before : List MemPlace)
  (hval : ∀ (j : Nat) t v, fn.params[j]? = some t → args[j]? = some v → Value.okWide P W .any base t v)
  (hW : DataW.Whole enc P fn.params.toList s.vars false W args.toList ds gs before) (hL : laidMetH P laid W) :
  Calls P f args W fun e W' => ∃ v, e = .returned v ∧ s.post enc P fn false true false false W args v W' := by
 have hlt : ∀ p ∈ before, p.block < W.heap.size := fun p hp => hW.lt p hp
 have hW' := hW
 obtain ⟨p, q, hA, hV, hpq, hfz, hnd⟩ := hW
 have hlen := trodAll_length _ _ _ _ hA
 obtain ⟨hv0, hsp⟩ := hs
 have hV2 := hV
 rw [hv0] at hV2
 obtain ⟨rfl, rfl⟩ := trodVars_none hV2
 rw [List.append_nil] at hpq
 subst hpq
 obtain ⟨r1, r2, r3⟩ := hsp H (ds ++ []) (by simpa using hlen)
 refine (walk H enc W base args ds before hval hA hlt hL).mono fun e W' ⟨he, hb⟩ => ?_
 subst he
 refine ⟨_, rfl, post_below (pa := before) (pv := []) hW' ?_ ?_ ?_ (by simp) hb (ok_one hres rfl (okWide_bool_mk htb _))⟩
 ·intro b sp hd
  rw [r1, hres]
  exact trodAll_mk1 (shut_bool htb true)
 ·intro sp hsp'
  rw [r2, List.append_nil]
  exact trodAll_below laidB hb sp _ _ _ _ hread hA hlt hsp'
 ·intro sp _
  rw [r3, hv0]
  rfl
end Go.Proofs.YtnnmenmifphadaaGreatDoor
