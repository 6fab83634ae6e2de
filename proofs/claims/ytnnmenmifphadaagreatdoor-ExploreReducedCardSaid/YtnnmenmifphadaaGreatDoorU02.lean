/- The contracts of strings.Builder, laid at this program. -/
import Derived.Test.YtnnmenmifphadaaGreatDoorProg
import Derived.Shelf.Strings.BuilderK
import Derived.Shelf.Strings.OnBuilder
set_option linter.unusedSimpArgs false
set_option linter.unusedVariables false
namespace Go.Proofs.YtnnmenmifphadaaGreatDoor
open Go.RowKit
def bren : Go.Shelf.Ren := ⟨fun | 167 => 37 | 166 => 75 | 169 => 43 | 240 => 79 | 276 => 122 | n => n, fun | 0 => 0 | 3 => 3 | 4 => 4 | 5 => 5 | 9 => 9 | 20 => 20 | 37 => 101 | 70 => 100 | 72 => 103 | 75 => 106 | 164 => 213 | 80 => 111 | n => n, fun | n => n⟩
theorem lays166 : Go.Proofs.Lays.n166 Tryz.prog bren := {
 mixed := by kernel_rfl
 f166 := Tryz.func75.trans (congrArg some (by kernel_rfl))
 f240 := Tryz.func79.trans (congrArg some (by kernel_rfl))
 f276 := Tryz.func122.trans (congrArg some (by kernel_rfl))
 t0 := Tryz.underlying0
 a0 := Tryz.isAgg0
 z0 := Tryz.sizeOf0
 v0 := Tryz.zeroValue0
 t3 := Tryz.underlying3
 a3 := Tryz.isAgg3
 z3 := Tryz.sizeOf3
 v3 := Tryz.zeroValue3
 t4 := Tryz.underlying4
 a4 := Tryz.isAgg4
 z4 := Tryz.sizeOf4
 v4 := Tryz.zeroValue4
 t9 := Tryz.underlying9
 a9 := Tryz.isAgg9
 z9 := Tryz.sizeOf9
 v9 := Tryz.zeroValue9
 t20 := Tryz.underlying20
 a20 := Tryz.isAgg20
 z20 := Tryz.sizeOf20
 v20 := Tryz.zeroValue20
 t37 := Tryz.underlying101
 a37 := Tryz.isAgg101
 z37 := Tryz.sizeOf101
 v37 := Tryz.zeroValue101
 t70 := Tryz.underlying100
 a70 := Tryz.isAgg100
 z70 := Tryz.sizeOf100
 v70 := Tryz.zeroValue100
 t72 := Tryz.underlying103
 a72 := Tryz.isAgg103
 z72 := Tryz.sizeOf103
 v72 := Tryz.zeroValue103
 t75 := Tryz.underlying106
 a75 := Tryz.isAgg106
 z75 := Tryz.sizeOf106
 v75 := Tryz.zeroValue106
 t164 := Tryz.underlying213
 a164 := Tryz.isAgg213
 z164 := Tryz.sizeOf213
 v164 := Tryz.zeroValue213 }
theorem lays167 : Go.Proofs.Lays.n167 Tryz.prog bren := {
 mixed := by kernel_rfl
 f167 := Tryz.func37.trans (congrArg some (by kernel_rfl))
 f240 := Tryz.func79.trans (congrArg some (by kernel_rfl))
 f276 := Tryz.func122.trans (congrArg some (by kernel_rfl))
 t0 := Tryz.underlying0
 a0 := Tryz.isAgg0
 z0 := Tryz.sizeOf0
 v0 := Tryz.zeroValue0
 t4 := Tryz.underlying4
 a4 := Tryz.isAgg4
 z4 := Tryz.sizeOf4
 v4 := Tryz.zeroValue4
 t5 := Tryz.underlying5
 a5 := Tryz.isAgg5
 z5 := Tryz.sizeOf5
 v5 := Tryz.zeroValue5
 t9 := Tryz.underlying9
 a9 := Tryz.isAgg9
 z9 := Tryz.sizeOf9
 v9 := Tryz.zeroValue9
 t20 := Tryz.underlying20
 a20 := Tryz.isAgg20
 z20 := Tryz.sizeOf20
 v20 := Tryz.zeroValue20
 t37 := Tryz.underlying101
 a37 := Tryz.isAgg101
 z37 := Tryz.sizeOf101
 v37 := Tryz.zeroValue101
 t70 := Tryz.underlying100
 a70 := Tryz.isAgg100
 z70 := Tryz.sizeOf100
 v70 := Tryz.zeroValue100
 t72 := Tryz.underlying103
 a72 := Tryz.isAgg103
 z72 := Tryz.sizeOf103
 v72 := Tryz.zeroValue103
 t75 := Tryz.underlying106
 a75 := Tryz.isAgg106
 z75 := Tryz.sizeOf106
 v75 := Tryz.zeroValue106
 t164 := Tryz.underlying213
 a164 := Tryz.isAgg213
 z164 := Tryz.sizeOf213
 v164 := Tryz.zeroValue213 }
theorem bextra : Builder.Extra Tryz.prog bren := {
 sizeBuilder := by kernel_rfl
 liesBuilder := by kernel_rfl
 t5 := Tryz.underlying5
 a5 := Tryz.isAgg5
 z5 := Tryz.sizeOf5
 v5 := Tryz.zeroValue5
 infoByte := by kernel_rfl
 cellsByte := by kernel_rfl
 sizeByte := by kernel_rfl
 neB5 := by decide }
theorem bld_byte (B b : Nat) (bs : List Value) (c : Int) (w : World) (h : Lib.IsBuilderF 103 5 B b bs w) (hlen : bs.length + 1 ≤ 140737488355328) (hBw : B ≤ w.heap.size) :
 Calls Tryz.prog 37 #[.pointer (some ⟨b, 0, none⟩), .int .u8 c] w fun e w' => e = .returned .nilIface ∧ (Lib.BuilderAtF 103 5 B b (.pointer (some ⟨b, 0, none⟩)) (bs ++ [.int .u8 c]) w' ∧ Below B w w' ∧ Lib.OthersKept 5 (some b) w w') := Any.Builder_WriteByte_k lays167 bextra B b bs c w h hlen hBw
end Go.Proofs.YtnnmenmifphadaaGreatDoor
