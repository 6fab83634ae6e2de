/- The law's list of results opened; two acts compared. -/
import Derived.Test.YtfldjbojonbmpaaW6
import Derived.Test.YtfldjbojonbmpaaRs
import Derived.Deep.Strs
import Derived.ChangeSame
namespace Go.Proofs.Ytfldjbojonbmpaa
open Go.ChangeShapes Go.WideShapes Go.ChangeAt Go.RowKit Go.Deep

def gotc (g : GS) : List Value := [.int .i64 g.v, .int .u32 g.r, .int .u32 g.f, .bool g.k]
theorem cellsGot : Try.prog.cellsOf 45 = 4 := by kernel_rfl
theorem cellsWord : Try.prog.cellsOf 35 = 3 := by kernel_rfl
theorem cellsI64 : Try.prog.cellsOf 2 = 1 := by kernel_rfl
theorem cellsU32 : Try.prog.cellsOf 33 = 1 := by kernel_rfl
theorem cellsBool : Try.prog.cellsOf 4 = 1 := by kernel_rfl

section
variable {H : Type} {enc : TypeId × Value → H} {w : World} {base : Nat} {spare : Nat → Bool} {held : Bool}
set_option maxRecDepth 100000 in
theorem rd_got {cs : List Value} {y : DataW H × List MemPlace} {m : Nat} (hl : cs.length = 4) (h : DataW.trod enc Try.prog w base spare held m 45 cs = some y) : ∃ g : GS, cs = gotc g := by
  match cs, hl with
  | [c0, c1, c2, c3], _ =>
    obtain ⟨y0, y1, n, _, _, h0, h1⟩ := trod_struct2 Try.underlying45 h
    rw [cellsWord] at h0
    rw [cellsBool] at h1
    obtain ⟨k, rfl⟩ := bool_of Try.underlying4 (u := c3) h1
    obtain ⟨z0, z1, z2, n2, _, _, g0, g1, g2⟩ := trod_struct3 Try.underlying35 h0
    rw [cellsI64] at g0
    rw [cellsU32] at g1 g2
    obtain ⟨v, rfl, _⟩ := int_of Try.underlying2 (u := c0) g0
    obtain ⟨r, rfl, _⟩ := int_of Try.underlying33 (u := c1) g1
    obtain ⟨f, rfl, _⟩ := int_of Try.underlying33 (u := c2) g2
    exact ⟨⟨v, r, f, k⟩, rfl⟩
theorem rd_gots {v : Value} {d : DataW H} {p : List MemPlace} {r : Reach} {b0 : Nat} (hv : Value.okWide Try.prog w r b0 23 v) (h : DataW.Trod enc Try.prog w base spare held 23 v d p) :
    ∃ (A : Option Addr) (n cap : Nat) (l : List GS), v = .slice A n cap ∧ n ≤ maxLen ∧ l.length = n ∧ Rd w w.heap.size 4 A n (l.flatMap gotc) := by
  obtain ⟨A, n, cap, rfl⟩ := okWide_slice Try.underlying23 hv
  obtain ⟨fuel, hf⟩ := h
  obtain ⟨A', n', cap', xs, e, hc, hm, _, hr, hx⟩ := rd_slice_c Try.underlying23 cellsGot (by decide) hf
  injection e with e1 e2 e3
  subst e1 e2 e3
  obtain ⟨l, hl, rfl⟩ := told 4 gotc (fun _ => rfl) n xs hr.1 (fun i hi => by
    obtain ⟨m, y, hy⟩ := hx i hi
    have hle : (i + 1) * 4 ≤ n * 4 := Nat.mul_le_mul_right _ hi
    have hxl := hr.1
    obtain ⟨g, hg⟩ := rd_got (by rw [List.length_take, List.length_drop, hxl]; omega) hy
    refine ⟨g, fun j hj => ?_⟩
    rw [← hg, List.getElem?_take, if_pos hj, List.getElem?_drop])
  exact ⟨A, n, cap, l, rfl, hm, hl, hr⟩
end

theorem stoodAct : Try.prog.stoodInHeld 37 = false := by kernel_rfl
theorem stoodWord : Try.prog.stoodInHeld 35 = false := by kernel_rfl
theorem fieldsWord : Try.prog.fieldsOf 35 = #[⟨"Val", 2, 0, false, "", "", 0⟩, ⟨"Ver", 33, 1, false, "", "", 8⟩, ⟨"Ref", 33, 2, false, "", "", 12⟩] := by simp [Program.fieldsOf, Try.underlying35]
theorem fieldsAct : Try.prog.fieldsOf 37 = #[⟨"Op", 3, 0, false, "", "", 0⟩, ⟨"At", 32, 1, false, "", "", 8⟩, ⟨"Old", 35, 2, false, "", "", 16⟩, ⟨"New", 35, 5, false, "", "", 32⟩] := by simp [Program.fieldsOf, Try.underlying37]
theorem eqWord (a b c : Int) (w : World) : (Op.equalIn 9999 35 (.agg #[.int .i64 a, .int .u32 b, .int .u32 c]) (.agg #[.int .i64 a, .int .u32 b, .int .u32 c])).run Try.prog w = .ok true w := by
  rw [run_equalIn_struct w 9998 35 _ _ (by rw [fieldsWord]; exact Try.underlying35) stoodWord, fieldsWord]
  simp [Op.eqFields, go_sem, Result.andThen]
theorem neqAct (x : AS) (w : World) : (binOp .neq 37 (.agg #[.int .i64 (x).o, .int .i64 (x).l, .int .i64 (x).v, .int .u32 (x).r, .int .u32 (x).f, .int .i64 (x).v2, .int .u32 (x).r2, .int .u32 (x).f2]) (.agg #[.int .i64 (x).o, .int .i64 (x).l, .int .i64 (x).v, .int .u32 (x).r, .int .u32 (x).f, .int .i64 (x).v2, .int .u32 (x).r2, .int .u32 (x).f2])).run Try.prog w = .ok (.bool false) w := by
  rw [run_neq_struct, run_equalIn_struct w 9999 37 _ _ (by rw [fieldsAct]; exact Try.underlying37) stoodAct, fieldsAct]
  simp [Op.eqFields, go_sem, Result.andThen, eqWord]
end Go.Proofs.Ytfldjbojonbmpaa
