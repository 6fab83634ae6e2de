/- AdviseWraps: a wrapped code performs the specified number of Rest acts, then issues exactly the acts of the inner code for every sequence of results, and is done when the inner code is done. No condition. -/
import Derived.Test.YtfldjbojonbmpaaRows
import Derived.Test.YtfldjbojonbmpaaFr
import Derived.Test.YtfldjbojonbmpaaAW
import Derived.Test.YtfldjbojonbmpaaW9
import Derived.Test.YtfldjbojonbmpaaRg
namespace Go.Proofs.Ytfldjbojonbmpaa.lawWraps
open Go.ChangeShapes Go.WideShapes Go.ChangeAt Go.RowKit

/-- The code as it is made, and behind its first step. -/
def C0 : CS := ⟨false, false, false, 0, 0⟩
def C1 : CS := ⟨true, false, false, 0, 0⟩
def A1 : AS := ⟨5, 0, 0, 0, 0, 0, 0, 0⟩
theorem nxt_C0 (n : Int) : nxt n C0 G0 = (C1, A1, false) := rfl
theorem wn_first (n : Int) (g : GS) (w : World) :
    Calls Try.prog 44 #[(.agg #[.iface 72 (.agg #[.int .i64 0, .int .i64 0, .int .i64 n, .bool (C0).b, .bool (C0).s, .bool (C0).d, .int .i64 (C0).t, .int .i64 (C0).a]), .int .i64 0, .bool false]), (.agg #[.int .i64 g.v, .int .u32 g.r, .int .u32 g.f, .bool g.k])] w fun e w' => e = .returned (.tuple #[.iface 66 (.agg #[.iface 72 (.agg #[.int .i64 0, .int .i64 0, .int .i64 n, .bool (C1).b, .bool (C1).s, .bool (C1).d, .int .i64 (C1).t, .int .i64 (C1).a]), .int .i64 0, .bool true]), (.agg #[.int .i64 A1.o, .int .i64 A1.l, .int .i64 A1.v, .int .u32 A1.r, .int .u32 A1.f, .int .i64 A1.v2, .int .u32 A1.r2, .int .u32 A1.f2]), .bool false]) ∧ Below w.heap.size w w' :=
  wn_inner n C0 false g w (by decide) (by decide)

/-- Where the wrapped code stands behind i rests. -/
def XS (R i : Int) (c : CS) (l : Int) (b : Bool) (a : AS) : Prop := (i < R → c = C0 ∧ l = R - 1 - i ∧ b = false ∧ a = A0) ∧ (¬ i < R → c = C1 ∧ l = 0 ∧ b = true ∧ a = A1)
theorem start_w (n R : Int) (h0 : 0 ≤ R) (h1 : R ≤ 64) : ∃ c l b a, XS R 0 c l b a ∧ ∀ w, Calls Try.prog 8 #[.iface 66 (.agg #[.iface 72 (.agg #[.int .i64 0, .int .i64 0, .int .i64 n, .bool (C0).b, .bool (C0).s, .bool (C0).d, .int .i64 (C0).t, .int .i64 (C0).a]), .int .i64 R, .bool false])] w fun e w' => e = .returned (.agg #[.iface 66 (.agg #[.iface 72 (.agg #[.int .i64 0, .int .i64 0, .int .i64 n, .bool (c).b, .bool (c).s, .bool (c).d, .int .i64 (c).t, .int .i64 (c).a]), .int .i64 l, .bool b]), (.func (Fn.method "Next") #[.iface 66 (.agg #[.iface 72 (.agg #[.int .i64 0, .int .i64 0, .int .i64 n, .bool (c).b, .bool (c).s, .bool (c).d, .int .i64 (c).t, .int .i64 (c).a]), .int .i64 l, .bool b])] #[]), .int .i64 (a).o, .int .i64 (a).l, .int .i64 (a).v, .int .u32 (a).r, .int .u32 (a).f, .int .i64 (a).v2, .int .u32 (a).r2, .int .u32 (a).f2, .slice none 0 0]) ∧ Below w.heap.size w w' := by
  by_cases h : 0 < R
  · refine ⟨C0, R - 1, false, A0, ⟨fun _ => ⟨rfl, by omega, rfl, rfl⟩, fun h' => absurd h h'⟩, fun w => ?_⟩
    exact start_go 66 44 (.agg #[.iface 72 (.agg #[.int .i64 0, .int .i64 0, .int .i64 n, .bool (C0).b, .bool (C0).s, .bool (C0).d, .int .i64 (C0).t, .int .i64 (C0).a]), .int .i64 R, .bool false]) (.agg #[.iface 72 (.agg #[.int .i64 0, .int .i64 0, .int .i64 n, .bool (C0).b, .bool (C0).s, .bool (C0).d, .int .i64 (C0).t, .int .i64 (C0).a]), .int .i64 (R - 1), .bool false]) A0 w codeT_wr wr_meth wr_enter (fun W _ => wn_left _ _ R false G0 W h h1)
  · obtain rfl : R = 0 := by omega
    refine ⟨C1, 0, true, A1, ⟨fun h' => absurd h' h, fun _ => ⟨rfl, rfl, rfl, rfl⟩⟩, fun w => ?_⟩
    exact start_go 66 44 (.agg #[.iface 72 (.agg #[.int .i64 0, .int .i64 0, .int .i64 n, .bool (C0).b, .bool (C0).s, .bool (C0).d, .int .i64 (C0).t, .int .i64 (C0).a]), .int .i64 0, .bool false]) (.agg #[.iface 72 (.agg #[.int .i64 0, .int .i64 0, .int .i64 n, .bool (C1).b, .bool (C1).s, .bool (C1).d, .int .i64 (C1).t, .int .i64 (C1).a]), .int .i64 0, .bool true]) A1 w codeT_wr wr_meth wr_enter (fun W _ => wn_first n G0 W)
theorem start_c (n : Int) (w : World) : Calls Try.prog 8 #[.iface 72 (.agg #[.int .i64 0, .int .i64 0, .int .i64 n, .bool (C0).b, .bool (C0).s, .bool (C0).d, .int .i64 (C0).t, .int .i64 (C0).a])] w fun e w' => e = .returned (.agg #[.iface 72 (.agg #[.int .i64 0, .int .i64 0, .int .i64 n, .bool (C1).b, .bool (C1).s, .bool (C1).d, .int .i64 (C1).t, .int .i64 (C1).a]), (.func (Fn.method "Next") #[.iface 72 (.agg #[.int .i64 0, .int .i64 0, .int .i64 n, .bool (C1).b, .bool (C1).s, .bool (C1).d, .int .i64 (C1).t, .int .i64 (C1).a])] #[]), .int .i64 (A1).o, .int .i64 (A1).l, .int .i64 (A1).v, .int .u32 (A1).r, .int .u32 (A1).f, .int .i64 (A1).v2, .int .u32 (A1).r2, .int .u32 (A1).f2, .slice none 0 0]) ∧ Below w.heap.size w w' :=
  start_go 72 45 (.agg #[.int .i64 0, .int .i64 0, .int .i64 n, .bool (C0).b, .bool (C0).s, .bool (C0).d, .int .i64 (C0).t, .int .i64 (C0).a]) (.agg #[.int .i64 0, .int .i64 0, .int .i64 n, .bool (C1).b, .bool (C1).s, .bool (C1).d, .int .i64 (C1).t, .int .i64 (C1).a]) A1 w codeT_code code_meth code_enter (fun W _ => code_next n C0 G0 W (by decide) (by decide))
/-- One more rest. -/
theorem give_w (n R i : Int) (c : CS) (lf : Int) (b : Bool) (a : AS) (g : GS) (hx : XS R i c lf b a) (hi : i < R) (h0 : 0 ≤ i) (h1 : R ≤ 64) : ∃ c' l' b' a', XS R (i + 1) c' l' b' a' ∧ ∀ (A : Option Addr) (m cp : Nat) w, m ≤ 1000 → GotsR w A m cp →
    Calls Try.prog 10 #[(.agg #[.iface 66 (.agg #[.iface 72 (.agg #[.int .i64 0, .int .i64 0, .int .i64 n, .bool (c).b, .bool (c).s, .bool (c).d, .int .i64 (c).t, .int .i64 (c).a]), .int .i64 lf, .bool b]), (.func (Fn.method "Next") #[.iface 66 (.agg #[.iface 72 (.agg #[.int .i64 0, .int .i64 0, .int .i64 n, .bool (c).b, .bool (c).s, .bool (c).d, .int .i64 (c).t, .int .i64 (c).a]), .int .i64 lf, .bool b])] #[]), .int .i64 (a).o, .int .i64 (a).l, .int .i64 (a).v, .int .u32 (a).r, .int .u32 (a).f, .int .i64 (a).v2, .int .u32 (a).r2, .int .u32 (a).f2, .slice A m cp]), (.agg #[.int .i64 (g).v, .int .u32 (g).r, .int .u32 (g).f, .bool (g).k])] w fun e w' => ∃ A' cp', e = .returned (.agg #[.iface 66 (.agg #[.iface 72 (.agg #[.int .i64 0, .int .i64 0, .int .i64 n, .bool (c').b, .bool (c').s, .bool (c').d, .int .i64 (c').t, .int .i64 (c').a]), .int .i64 l', .bool b']), (.func (Fn.method "Next") #[.iface 66 (.agg #[.iface 72 (.agg #[.int .i64 0, .int .i64 0, .int .i64 n, .bool (c').b, .bool (c').s, .bool (c').d, .int .i64 (c').t, .int .i64 (c').a]), .int .i64 l', .bool b'])] #[]), .int .i64 (a').o, .int .i64 (a').l, .int .i64 (a').v, .int .u32 (a').r, .int .u32 (a').f, .int .i64 (a').v2, .int .u32 (a').r2, .int .u32 (a').f2, .slice A' (m + 1) cp']) ∧ GotsR w' A' (m + 1) cp' ∧ NewB w A' ∧ Below w.heap.size w w' := by
  obtain ⟨rfl, rfl, rfl, rfl⟩ := hx.1 hi
  by_cases h : i + 1 < R
  · refine ⟨C0, R - 1 - (i + 1), false, A0, ⟨fun _ => ⟨rfl, rfl, rfl, rfl⟩, fun h' => absurd h h'⟩, fun A m cp w hm hg => ?_⟩
    have e : R - 1 - (i + 1) = R - 1 - i - 1 := by omega
    rw [e]
    exact give_go 66 44 (.agg #[.iface 72 (.agg #[.int .i64 0, .int .i64 0, .int .i64 n, .bool (C0).b, .bool (C0).s, .bool (C0).d, .int .i64 (C0).t, .int .i64 (C0).a]), .int .i64 (R - 1 - i), .bool false]) (.agg #[.iface 72 (.agg #[.int .i64 0, .int .i64 0, .int .i64 n, .bool (C0).b, .bool (C0).s, .bool (C0).d, .int .i64 (C0).t, .int .i64 (C0).a]), .int .i64 (R - 1 - i - 1), .bool false]) _ A0 A0 g A m cp w codeT_wr wr_meth wr_enter hm hg (fun W _ => wn_left _ _ (R - 1 - i) false g W (by omega) (by omega))
  · refine ⟨C1, 0, true, A1, ⟨fun h' => absurd h' h, fun _ => ⟨rfl, rfl, rfl, rfl⟩⟩, fun A m cp w hm hg => ?_⟩
    have e : R - 1 - i = 0 := by omega
    rw [e]
    exact give_go 66 44 (.agg #[.iface 72 (.agg #[.int .i64 0, .int .i64 0, .int .i64 n, .bool (C0).b, .bool (C0).s, .bool (C0).d, .int .i64 (C0).t, .int .i64 (C0).a]), .int .i64 0, .bool false]) (.agg #[.iface 72 (.agg #[.int .i64 0, .int .i64 0, .int .i64 n, .bool (C1).b, .bool (C1).s, .bool (C1).d, .int .i64 (C1).t, .int .i64 (C1).a]), .int .i64 0, .bool true]) _ A0 A1 g A m cp w codeT_wr wr_meth wr_enter hm hg (fun W _ => wn_first n g W)
theorem gots_none (w : World) : GotsR w none 0 0 := ⟨Nat.le_refl _, fun _ => rfl, [], Rd.nil _ _ _ _⟩

set_option maxHeartbeats 4000000 in
set_option maxRecDepth 100000 in
theorem wraps_any (n rest : Int) (A : Option Addr) (len cap : Nat) (l : List GS) (w : World) (hn0 : -128 ≤ n) (hn1 : n ≤ 127) (hl : l.length = len) (h100 : len ≤ 100) (hr : Rd w w.heap.size 4 A len (l.flatMap gotc)) :
    Calls Try.prog 3 #[.int .i8 n, .int .i64 rest, .slice A len cap] w fun e w' => e = .returned (.bool true) ∧ Below w.heap.size w w' := by
  have Hl := hide hl
  clear hl
  have c1 := codeT_wr.1
  have c2 := codeT_wr.2.2
  have c3 := nil_eq
  have c4 := nil_ne
  go_enter Try.func3, Try.ntmps3
  go_wp2_with fail
  refine (awake52_any _).mono ?_
  rintro e w0 ⟨rfl, hb0⟩
  go_wp2_with fail
  refine (code_any n _ hn0 hn1).mono ?_
  rintro e w1 ⟨rfl, hb1⟩
  go_wp2_with fail
  refine (wrap_any 72 (.agg #[.int .i64 0, .int .i64 0, .int .i64 n, .bool (C0).b, .bool (C0).s, .bool (C0).d, .int .i64 (C0).t, .int .i64 (C0).a]) rest _ codeT_code).mono ?_
  rintro e w2 ⟨rfl, rfl⟩
  go_wp2_with fail
  refine (wrap_nil rest _).mono ?_
  rintro e w3 ⟨rfl, rfl⟩
  go_wp2_with fail
  refine (inner_nil _).mono ?_
  rintro e w4 ⟨rfl, hb4⟩
  obtain ⟨R, hR⟩ : ∃ R, R = many rest := ⟨_, rfl⟩
  have hR0 : 0 ≤ R ∧ R ≤ 64 := by rw [hR]; unfold many; omega
  obtain ⟨hRa, hRb⟩ := hR0
  have hB4 : Below w.heap.size w w4 := (hb0.trans (hb1.mono hb0.size)).trans (hb4.mono (by have := hb0.size; have := hb1.size; omega))
  rw [← hR]
  have HR := hide hR
  clear hR hb0 hb1 hb4
  go_upto_region 9 with fail
  go_cut [10] (fun s10 wx => s10 = .int .i64 R ∧ wx = w4)
  case first =>
    by_cases h64 : 64 < rest
    · have hm : R = 64 := by rw [HR.out]; unfold many; omega
      subst hm
      go_wp2_with fail
      go_meet
      exact ⟨rfl, rfl⟩
    · by_cases h0 : 0 < rest
      · have hm : R = rest := by rw [HR.out]; unfold many; omega
        subst hm
        go_wp2_with fail
        go_meet
        exact ⟨rfl, rfl⟩
      · have hm : R = 0 := by rw [HR.out]; unfold many; omega
        subst hm
        go_wp2_with fail
        go_meet
        exact ⟨rfl, rfl⟩
  case rest =>
    obtain ⟨rfl, rfl⟩ := hcut
    obtain ⟨c, lf, b, a, hxs, hst⟩ := start_w n R hRa hRb
    have Hst := hide hst
    have Hxs := hide hxs
    clear hst hxs
    go_wp2_with fail
    refine (Hst.out _).mono ?_
    rintro e w5 ⟨rfl, hb5⟩
    go_wp2_with fail
    refine (start_c n _).mono ?_
    rintro e w6 ⟨rfl, hb6⟩
    have hB6 : Below w.heap.size w w6 := (hB4.trans (hb5.mono hB4.size)).trans (hb6.mono (by have := hB4.size; have := hb5.size; omega))
    clear hb5 hb6
    go_wp2_with fail
    go_loopw [13] (fun i wr => ∃ (k : Nat) (c : CS) (lf : Int) (b : Bool) (a : AS) (A : Option Addr) (cp : Nat), i = .int .i64 k ∧ (k : Int) ≤ R ∧ XS R k c lf b a ∧
        BoxC w6.heap.size (tcells 66 (.agg #[.iface 72 (.agg #[.int .i64 0, .int .i64 0, .int .i64 n, .bool (c).b, .bool (c).s, .bool (c).d, .int .i64 (c).t, .int .i64 (c).a]), .int .i64 lf, .bool b]) (.func (Fn.method "Next") #[.iface 66 (.agg #[.iface 72 (.agg #[.int .i64 0, .int .i64 0, .int .i64 n, .bool (c).b, .bool (c).s, .bool (c).d, .int .i64 (c).t, .int .i64 (c).a]), .int .i64 lf, .bool b])] #[]) a A k cp) wr ∧ BoxC (w6.heap.size + 1) (tcells 72 (.agg #[.int .i64 0, .int .i64 0, .int .i64 n, .bool (C1).b, .bool (C1).s, .bool (C1).d, .int .i64 (C1).t, .int .i64 (C1).a]) (.func (Fn.method "Next") #[.iface 72 (.agg #[.int .i64 0, .int .i64 0, .int .i64 n, .bool (C1).b, .bool (C1).s, .bool (C1).d, .int .i64 (C1).t, .int .i64 (C1).a])] #[]) A1 none 0 0) wr ∧ GotsR wr A k cp ∧ (∀ b off, A = some ⟨b, off, none⟩ → w6.heap.size + 1 < b) ∧ Below w6.heap.size w6 wr)
      (fun i _ => (R - intOf i).toNat)
    case atStart =>
      refine ⟨0, c, lf, b, a, none, 0, rfl, by omega, Hxs.out, ?_, ?_, gots_none _, (fun b off e => by cases e), (by repeat' (first | with_reducible exact Below.refl _ _ | with_reducible assumption | with_reducible refine Below.alloc ?_ ?_ _ | with_reducible refine Below.setCell ?_ ?_ _ | with_reducible refine Below.drew ?_ | with_reducible refine below_drewN ?_ _ | with_reducible refine Below.trans ?_ (Below.mono (by with_reducible assumption) ?_) | omega | (simp <;> omega)))⟩
      · exact (BoxC.made w6 _ _).below ((Below.refl _ _).alloc (Nat.le_refl _) _)
      · exact BoxC.made_at (by simp) _ _
    case round =>
      obtain ⟨k, c, lf, b, a, A2, cp, rfl, hkR, hxs, hX, hY, hG, hN, hB⟩ := hrel
      by_cases hlt : (k : Int) < R
      · have hA0 : a = A0 := (hxs.1 hlt).2.2.2
        have hne : (a.o != 0) = false := by rw [hA0]; rfl
        obtain ⟨c', l', b', a', hxs', hgv⟩ := give_w n R k c lf b a ⟨k, 0, 0, true⟩ hxs hlt (by omega) hRb
        have Hgv := hide hgv
        have Hx' := hide hxs'
        have hbx : w6.heap.size < wr.heap.size := hX.2.2
        have hby : w6.heap.size + 1 < wr.heap.size := hY.2.2
        have x0 := hX.1 0 _ rfl
        have x1 := hX.1 1 _ rfl
        have x2 := hX.1 2 _ rfl
        have x3 := hX.1 3 _ rfl
        have x4 := hX.1 4 _ rfl
        have x5 := hX.1 5 _ rfl
        have x6 := hX.1 6 _ rfl
        have x7 := hX.1 7 _ rfl
        have x8 := hX.1 8 _ rfl
        have x9 := hX.1 9 _ rfl
        have x10 := hX.1 10 _ rfl
        have xz : ∀ o, wr.frozen? ⟨w6.heap.size, o, none⟩ = false := hX.2.1
        clear hgv hxs hxs' hA0
        go_wp2_with fail
        refine (act_no 66 (.agg #[.iface 72 (.agg #[.int .i64 0, .int .i64 0, .int .i64 n, .bool (c).b, .bool (c).s, .bool (c).d, .int .i64 (c).t, .int .i64 (c).a]), .int .i64 lf, .bool b]) _ a A2 k cp _).mono ?_
        rintro e w7 ⟨rfl, hb7⟩
        obtain ⟨hcc7, hff7⟩ := bcell hb7
        have hs7 := hb7.size
        have hbx7 : w6.heap.size < w7.heap.size := by omega
        go_wp2_with fail
        refine (Hgv.out A2 k cp _ (by omega) (hG.below (by repeat' (first | with_reducible exact Below.refl _ _ | with_reducible assumption | with_reducible refine Below.alloc ?_ ?_ _ | with_reducible refine Below.setCell ?_ ?_ _ | with_reducible refine Below.drew ?_ | with_reducible refine below_drewN ?_ _ | with_reducible refine Below.trans ?_ (Below.mono (by with_reducible assumption) ?_) | omega | (simp <;> omega))))).mono ?_
        rintro e w8 ⟨A3, cp3, rfl, hG3, hNew, hb8⟩
        have hb0 : Below wr.heap.size wr w8 := (by repeat' (first | with_reducible exact Below.refl _ _ | with_reducible assumption | with_reducible refine Below.alloc ?_ ?_ _ | with_reducible refine Below.setCell ?_ ?_ _ | with_reducible refine Below.drew ?_ | with_reducible refine below_drewN ?_ _ | with_reducible refine Below.trans ?_ (Below.mono (by with_reducible assumption) ?_) | omega | (simp <;> omega)))
        have hz8 := hb0.size
        have hX8 := hX.below hb0
        clear hcc7 hff7 x0 x1 x2 x3 x4 x5 x6 x7 x8 x9 x10 xz
        have x0 := hX8.1 0 _ rfl
        have x1 := hX8.1 1 _ rfl
        have x2 := hX8.1 2 _ rfl
        have x3 := hX8.1 3 _ rfl
        have x4 := hX8.1 4 _ rfl
        have x5 := hX8.1 5 _ rfl
        have x6 := hX8.1 6 _ rfl
        have x7 := hX8.1 7 _ rfl
        have x8 := hX8.1 8 _ rfl
        have x9 := hX8.1 9 _ rfl
        have x10 := hX8.1 10 _ rfl
        have xz : ∀ o, w8.frozen? ⟨w6.heap.size, o, none⟩ = false := hX8.2.1
        go_wp2_with fail
        have hNx : ∀ b off, A3 = some ⟨b, off, none⟩ → w6.heap.size + 1 < b := fun b off e => by have := hNew b off e; (try simp at this); omega
        refine ⟨⟨k + 1, c', l', b', a', A3, cp3, by go_num, by omega, Hx'.out, ?_, ?_, ?_, hNx, ?_⟩, by simp [intOf]; omega⟩
        · exact BoxC.store11 hX8 _ _ _ _ _ _ _ _ _ _ _
        · exact BoxC.far11 (hY.below hb0) (by omega) _ _ _ _ _ _ _ _ _ _ _
        · exact GotsR.set11 hG3 (fun b off e => by have := hNx b off e; omega) _ _ _ _ _ _ _ _ _ _ _
        · have hBB : Below w6.heap.size w6 w8 := hB.trans (hb0.mono hB.size)
          exact (by repeat' (first | with_reducible exact Below.refl _ _ | with_reducible assumption | with_reducible refine Below.alloc ?_ ?_ _ | with_reducible refine Below.setCell ?_ ?_ _ | with_reducible refine Below.drew ?_ | with_reducible refine below_drewN ?_ _ | with_reducible refine Below.trans ?_ (Below.mono (by with_reducible assumption) ?_) | omega | (simp <;> omega)))
      · obtain rfl : R = (k : Int) := by omega
        obtain ⟨wo, rfl⟩ : ∃ wo : World, wo = wr := ⟨_, rfl⟩
        obtain ⟨rfl, rfl, rfl, rfl⟩ := hxs.2 hlt
        have Hr := hide hr
        have HB6 := hide hB6
        clear hxs hr hB6 hB4 Hxs Hst
        go_wp2_with fail
        go_loopw [16] (fun i wr => ∃ (q : Nat) (cb cs cd : Bool) (ct ca : Int) (a : AS) (nv1 nv2 : Value) (A A' : Option Addr) (m m' cp cp' : Nat), i = .int .i64 q ∧ q ≤ len + 1 ∧ 0 ≤ ct ∧ ct ≤ q ∧
          BoxC w6.heap.size (tcells 66 (.agg #[.iface 72 (.agg #[.int .i64 0, .int .i64 0, .int .i64 n, .bool cb, .bool cs, .bool cd, .int .i64 ct, .int .i64 ca]), .int .i64 0, .bool true]) nv1 a A m cp) wr ∧ BoxC (w6.heap.size + 1) (tcells 72 (.agg #[.int .i64 0, .int .i64 0, .int .i64 n, .bool cb, .bool cs, .bool cd, .int .i64 ct, .int .i64 ca]) nv2 a A' m' cp') wr ∧ GotsR wr A m cp ∧ GotsR wr A' m' cp' ∧
          (∀ b off, A = some ⟨b, off, none⟩ → w6.heap.size + 1 < b) ∧ (∀ b off, A' = some ⟨b, off, none⟩ → w6.heap.size + 1 < b) ∧ m ≤ 64 + q ∧ m' ≤ q ∧
          (cd = true → nv1 = .nilFunc ∧ nv2 = .nilFunc ∧ a = A0) ∧ (cd = false → nv1 = (.func (Fn.method "Next") #[.iface 66 (.agg #[.iface 72 (.agg #[.int .i64 0, .int .i64 0, .int .i64 n, .bool cb, .bool cs, .bool cd, .int .i64 ct, .int .i64 ca]), .int .i64 0, .bool true])] #[]) ∧ nv2 = (.func (Fn.method "Next") #[.iface 72 (.agg #[.int .i64 0, .int .i64 0, .int .i64 n, .bool cb, .bool cs, .bool cd, .int .i64 ct, .int .i64 ca])] #[])) ∧ Below w6.heap.size w6 wr)
          (fun i _ => len + 1 - (intOf i).toNat)
        case atStart =>
          exact ⟨0, true, false, false, 0, 0, A1, _, _, A2, none, k, 0, cp, 0, rfl, by omega, by omega, by omega, hX, hY, hG, gots_none _, hN, (fun b off e => by cases e), by omega, by omega, (fun h => by cases h), (fun _ => ⟨rfl, rfl⟩), hB⟩
        case round =>
          obtain ⟨q, cb, cs, cd, ct, ca, a, nv1, nv2, A2, A3, m, m', cp, cp', rfl, hq, ht0, ht1, hX, hY, hG, hG', hN, hN', hm, hm', hd1, hd2, hB⟩ := hrel
          by_cases hle : q ≤ len
          · cases cd with
            | false =>
              obtain ⟨rfl, rfl⟩ := hd2 rfl
              clear hd1 hd2
              have hneq := neqAct a
              have x0 := hX.1 0 _ rfl
              have x1 := hX.1 1 _ rfl
              have x2 := hX.1 2 _ rfl
              have x3 := hX.1 3 _ rfl
              have x4 := hX.1 4 _ rfl
              have x5 := hX.1 5 _ rfl
              have x6 := hX.1 6 _ rfl
              have x7 := hX.1 7 _ rfl
              have x8 := hX.1 8 _ rfl
              have x9 := hX.1 9 _ rfl
              have x10 := hX.1 10 _ rfl
              have y0 := hY.1 0 _ rfl
              have y1 := hY.1 1 _ rfl
              have y2 := hY.1 2 _ rfl
              have y3 := hY.1 3 _ rfl
              have y4 := hY.1 4 _ rfl
              have y5 := hY.1 5 _ rfl
              have y6 := hY.1 6 _ rfl
              have y7 := hY.1 7 _ rfl
              have y8 := hY.1 8 _ rfl
              have y9 := hY.1 9 _ rfl
              have y10 := hY.1 10 _ rfl
              have hbx : w6.heap.size < wr.heap.size := hX.2.2
              have hby : w6.heap.size + 1 < wr.heap.size := hY.2.2
              go_wp2_with fail
              refine (act_no 66 (.agg #[.iface 72 (.agg #[.int .i64 0, .int .i64 0, .int .i64 n, .bool cb, .bool cs, .bool false, .int .i64 ct, .int .i64 ca]), .int .i64 0, .bool true]) _ a A2 m cp _).mono ?_
              rintro e w7 ⟨rfl, hb7⟩
              obtain ⟨hcc7, hff7⟩ := bcell hb7
              have hs7 := hb7.size
              have hbx7 : w6.heap.size < w7.heap.size := by omega
              have hby7 : w6.heap.size + 1 < w7.heap.size := by omega
              go_wp2_with fail
              refine (act_no 72 (.agg #[.int .i64 0, .int .i64 0, .int .i64 n, .bool cb, .bool cs, .bool false, .int .i64 ct, .int .i64 ca]) _ a A3 m' cp' _).mono ?_
              rintro e w8 ⟨rfl, hb8⟩
              have hb0 : Below wr.heap.size wr w8 := (by repeat' (first | with_reducible exact Below.refl _ _ | with_reducible assumption | with_reducible refine Below.alloc ?_ ?_ _ | with_reducible refine Below.setCell ?_ ?_ _ | with_reducible refine Below.drew ?_ | with_reducible refine below_drewN ?_ _ | with_reducible refine Below.trans ?_ (Below.mono (by with_reducible assumption) ?_) | omega | (simp <;> omega)))
              obtain ⟨hcc8, hff8⟩ := bcell hb8
              have hs8 := hb8.size
              (try simp at hs8)
              have hbx8 : w6.heap.size < w8.heap.size := by omega
              have hby8 : w6.heap.size + 1 < w8.heap.size := by omega
              have ha8 : w7.heap.size < w8.heap.size := by omega
              go_wp2_with fail
              refine (tcode_any 66 (.agg #[.iface 72 (.agg #[.int .i64 0, .int .i64 0, .int .i64 n, .bool cb, .bool cs, .bool false, .int .i64 ct, .int .i64 ca]), .int .i64 0, .bool true]) (.func (Fn.method "Next") #[.iface 66 (.agg #[.iface 72 (.agg #[.int .i64 0, .int .i64 0, .int .i64 n, .bool cb, .bool cs, .bool false, .int .i64 ct, .int .i64 ca]), .int .i64 0, .bool true])] #[]) a A2 m cp _).mono ?_
              rintro e w9 ⟨rfl, hb9⟩
              obtain ⟨hcc9, hff9⟩ := bcell hb9
              have hs9 := hb9.size
              (try simp at hs9)
              have hbx9 : w6.heap.size < w9.heap.size := by omega
              have hby9 : w6.heap.size + 1 < w9.heap.size := by omega
              have ha9 : w7.heap.size < w9.heap.size := by omega
              have hc9 : w8.heap.size < w9.heap.size := by omega
              go_wp2_with fail
              refine (inner_any (.agg #[.int .i64 0, .int .i64 0, .int .i64 n, .bool cb, .bool cs, .bool false, .int .i64 ct, .int .i64 ca]) 0 true _).mono ?_
              rintro e w10 ⟨rfl, hb10⟩
              obtain ⟨hcc10, hff10⟩ := bcell hb10
              have hs10 := hb10.size
              (try simp at hs10)
              have hbx10 : w6.heap.size < w10.heap.size := by omega
              have hby10 : w6.heap.size + 1 < w10.heap.size := by omega
              have ha10 : w7.heap.size < w10.heap.size := by omega
              have hc10 : w8.heap.size < w10.heap.size := by omega
              go_wp2_with fail
              refine (answer_any n ct ca cb cs false _).mono ?_
              rintro e w11 ⟨rfl, hb11⟩
              obtain ⟨hcc11, hff11⟩ := bcell hb11
              have hs11 := hb11.size
              (try simp at hs11)
              have hbx11 : w6.heap.size < w11.heap.size := by omega
              have hby11 : w6.heap.size + 1 < w11.heap.size := by omega
              have ha11 : w7.heap.size < w11.heap.size := by omega
              have hc11 : w8.heap.size < w11.heap.size := by omega
              go_wp2_with fail
              refine (tcode_any 72 (.agg #[.int .i64 0, .int .i64 0, .int .i64 n, .bool cb, .bool cs, .bool false, .int .i64 ct, .int .i64 ca]) (.func (Fn.method "Next") #[.iface 72 (.agg #[.int .i64 0, .int .i64 0, .int .i64 n, .bool cb, .bool cs, .bool false, .int .i64 ct, .int .i64 ca])] #[]) a A3 m' cp' _).mono ?_
              rintro e w12 ⟨rfl, hb12⟩
              obtain ⟨hcc12, hff12⟩ := bcell hb12
              have hs12 := hb12.size
              (try simp at hs12)
              have hbx12 : w6.heap.size < w12.heap.size := by omega
              have hby12 : w6.heap.size + 1 < w12.heap.size := by omega
              have ha12 : w7.heap.size < w12.heap.size := by omega
              have hc12 : w8.heap.size < w12.heap.size := by omega
              go_wp2_with fail
              refine (answer_any n ct ca cb cs false _).mono ?_
              rintro e w13 ⟨rfl, hb13⟩
              obtain ⟨hcc13, hff13⟩ := bcell hb13
              have hs13 := hb13.size
              (try simp at hs13)
              have hbx13 : w6.heap.size < w13.heap.size := by omega
              have hby13 : w6.heap.size + 1 < w13.heap.size := by omega
              have ha13 : w7.heap.size < w13.heap.size := by omega
              have hc13 : w8.heap.size < w13.heap.size := by omega
              have u0 : w13.cell? ⟨w7.heap.size, 0, none⟩ = some (.int .i64 a.o) := by go_simp
              have u1 : w13.cell? ⟨w7.heap.size, 1, none⟩ = some (.int .i64 a.l) := by go_simp
              have u2 : w13.cell? ⟨w7.heap.size, 2, none⟩ = some (.int .i64 a.v) := by go_simp
              have u3 : w13.cell? ⟨w7.heap.size, 3, none⟩ = some (.int .u32 a.r) := by go_simp
              have u4 : w13.cell? ⟨w7.heap.size, 4, none⟩ = some (.int .u32 a.f) := by go_simp
              have u5 : w13.cell? ⟨w7.heap.size, 5, none⟩ = some (.int .i64 a.v2) := by go_simp
              have u6 : w13.cell? ⟨w7.heap.size, 6, none⟩ = some (.int .u32 a.r2) := by go_simp
              have u7 : w13.cell? ⟨w7.heap.size, 7, none⟩ = some (.int .u32 a.f2) := by go_simp
              have v0 : w13.cell? ⟨w8.heap.size, 0, none⟩ = some (.int .i64 a.o) := by go_simp
              have v1 : w13.cell? ⟨w8.heap.size, 1, none⟩ = some (.int .i64 a.l) := by go_simp
              have v2 : w13.cell? ⟨w8.heap.size, 2, none⟩ = some (.int .i64 a.v) := by go_simp
              have v3 : w13.cell? ⟨w8.heap.size, 3, none⟩ = some (.int .u32 a.r) := by go_simp
              have v4 : w13.cell? ⟨w8.heap.size, 4, none⟩ = some (.int .u32 a.f) := by go_simp
              have v5 : w13.cell? ⟨w8.heap.size, 5, none⟩ = some (.int .i64 a.v2) := by go_simp
              have v6 : w13.cell? ⟨w8.heap.size, 6, none⟩ = some (.int .u32 a.r2) := by go_simp
              have v7 : w13.cell? ⟨w8.heap.size, 7, none⟩ = some (.int .u32 a.f2) := by go_simp
              have hb13' : Below wr.heap.size wr w13 := (by repeat' (first | with_reducible exact Below.refl _ _ | with_reducible assumption | with_reducible refine Below.alloc ?_ ?_ _ | with_reducible refine Below.setCell ?_ ?_ _ | with_reducible refine Below.drew ?_ | with_reducible refine below_drewN ?_ _ | with_reducible refine Below.trans ?_ (Below.mono (by with_reducible assumption) ?_) | omega | (simp <;> omega)))
              have hX13 := hX.below hb13'
              have hY13 := hY.below hb13'
              have hG13 := hG.below hb13'
              have hG13' := hG'.below hb13'
              have hB13 : Below w6.heap.size w6 w13 := hB.trans (hb13'.mono hB.size)
              clear hcc7 hff7 hcc8 hff8 hcc9 hff9 hcc10 hff10 hcc11 hff11 hcc12 hff12 hcc13 hff13 hb0 hb7 hb8 hb9 hb10 hb11 hb12 hb13 x0 x1 x2 x3 x4 x5 x6 x7 x8 x9 x10 y0 y1 y2 y3 y4 y5 y6 y7 y8 y9 y10
              by_cases hql : q < len
              · have hz1 : l[q]? = some (l[q]'(by rw [Hl.out]; omega)) := List.getElem?_eq_getElem _
                obtain ⟨bl, off, rfl, hbb, hcA⟩ := Hr.out.elem (fun _ => rfl) hql hz1
                generalize (l[q]'(by rw [Hl.out]; omega)) = g at hcA
                have hBW : Below w.heap.size w w13 := HB6.out.trans (hB13.mono HB6.out.size)
                have HS : S28 w6.heap.size (w6.heap.size + 1) bl (off + q * 4) (tcells 66 (.agg #[.iface 72 (.agg #[.int .i64 0, .int .i64 0, .int .i64 n, .bool cb, .bool cs, .bool false, .int .i64 ct, .int .i64 ca]), .int .i64 0, .bool true]) (.func (Fn.method "Next") #[.iface 66 (.agg #[.iface 72 (.agg #[.int .i64 0, .int .i64 0, .int .i64 n, .bool cb, .bool cs, .bool false, .int .i64 ct, .int .i64 ca]), .int .i64 0, .bool true])] #[]) a A2 m cp) (tcells 72 (.agg #[.int .i64 0, .int .i64 0, .int .i64 n, .bool cb, .bool cs, .bool false, .int .i64 ct, .int .i64 ca]) (.func (Fn.method "Next") #[.iface 72 (.agg #[.int .i64 0, .int .i64 0, .int .i64 n, .bool cb, .bool cs, .bool false, .int .i64 ct, .int .i64 ca])] #[]) a A3 m' cp') g w13 := ⟨hX13, hY13, Nat.lt_of_lt_of_le hbb hBW.size, fun j u hu => (hBW.cell (p := ⟨bl, off + q * 4 + j, none⟩) hbb).trans (hcA j u hu)⟩
                have hblz : bl < w13.heap.size := Nat.lt_of_lt_of_le hbb hBW.size
                have hki : (0 : Int) ≤ (q : Int) := by omega
                have hkj : (q : Int) < (len : Int) := by omega
                obtain ⟨⟨b', s', d', t', ca'⟩, a', nv1', nv2', hst1, hst2, ht0', ht1', hd1', hd2', hg1, hg2⟩ := give_both n ⟨cb, cs, false, ct, ca⟩ g a (.func (Fn.method "Next") #[.iface 66 (.agg #[.iface 72 (.agg #[.int .i64 0, .int .i64 0, .int .i64 n, .bool cb, .bool cs, .bool false, .int .i64 ct, .int .i64 ca]), .int .i64 0, .bool true])] #[]) (.func (Fn.method "Next") #[.iface 72 (.agg #[.int .i64 0, .int .i64 0, .int .i64 n, .bool cb, .bool cs, .bool false, .int .i64 ct, .int .i64 ca])] #[]) ht0 (show ct ≤ 1000 by omega) (fun h => by cases h) (fun _ => ⟨rfl, rfl⟩)
                have Hg1 := hide hg1
                have Hg2 := hide hg2
                (try simp only [] at ht0' ht1')
                unfold Sto at hst1 hst2
                clear hz1 hcA hg1 hg2
                go_wp2_with fail
                clear u0 u1 u2 u3 u4 u5 u6 u7 v0 v1 v2 v3 v4 v5 v6 v7
                have rx0 : ∀ w', S28 w6.heap.size (w6.heap.size + 1) bl (off + q * 4) (tcells 66 (.agg #[.iface 72 (.agg #[.int .i64 0, .int .i64 0, .int .i64 n, .bool cb, .bool cs, .bool false, .int .i64 ct, .int .i64 ca]), .int .i64 0, .bool true]) (.func (Fn.method "Next") #[.iface 66 (.agg #[.iface 72 (.agg #[.int .i64 0, .int .i64 0, .int .i64 n, .bool cb, .bool cs, .bool false, .int .i64 ct, .int .i64 ca]), .int .i64 0, .bool true])] #[]) a A2 m cp) (tcells 72 (.agg #[.int .i64 0, .int .i64 0, .int .i64 n, .bool cb, .bool cs, .bool false, .int .i64 ct, .int .i64 ca]) (.func (Fn.method "Next") #[.iface 72 (.agg #[.int .i64 0, .int .i64 0, .int .i64 n, .bool cb, .bool cs, .bool false, .int .i64 ct, .int .i64 ca])] #[]) a A3 m' cp') g w' → w'.cell? ⟨w6.heap.size, 0, none⟩ = some (.iface 66 (.agg #[.iface 72 (.agg #[.int .i64 0, .int .i64 0, .int .i64 n, .bool cb, .bool cs, .bool false, .int .i64 ct, .int .i64 ca]), .int .i64 0, .bool true])) := fun w' h => h.1.1 0 _ rfl
                have rx1 : ∀ w', S28 w6.heap.size (w6.heap.size + 1) bl (off + q * 4) (tcells 66 (.agg #[.iface 72 (.agg #[.int .i64 0, .int .i64 0, .int .i64 n, .bool cb, .bool cs, .bool false, .int .i64 ct, .int .i64 ca]), .int .i64 0, .bool true]) (.func (Fn.method "Next") #[.iface 66 (.agg #[.iface 72 (.agg #[.int .i64 0, .int .i64 0, .int .i64 n, .bool cb, .bool cs, .bool false, .int .i64 ct, .int .i64 ca]), .int .i64 0, .bool true])] #[]) a A2 m cp) (tcells 72 (.agg #[.int .i64 0, .int .i64 0, .int .i64 n, .bool cb, .bool cs, .bool false, .int .i64 ct, .int .i64 ca]) (.func (Fn.method "Next") #[.iface 72 (.agg #[.int .i64 0, .int .i64 0, .int .i64 n, .bool cb, .bool cs, .bool false, .int .i64 ct, .int .i64 ca])] #[]) a A3 m' cp') g w' → w'.cell? ⟨w6.heap.size, 1, none⟩ = some ((.func (Fn.method "Next") #[.iface 66 (.agg #[.iface 72 (.agg #[.int .i64 0, .int .i64 0, .int .i64 n, .bool cb, .bool cs, .bool false, .int .i64 ct, .int .i64 ca]), .int .i64 0, .bool true])] #[])) := fun w' h => h.1.1 1 _ rfl
                have rx2 : ∀ w', S28 w6.heap.size (w6.heap.size + 1) bl (off + q * 4) (tcells 66 (.agg #[.iface 72 (.agg #[.int .i64 0, .int .i64 0, .int .i64 n, .bool cb, .bool cs, .bool false, .int .i64 ct, .int .i64 ca]), .int .i64 0, .bool true]) (.func (Fn.method "Next") #[.iface 66 (.agg #[.iface 72 (.agg #[.int .i64 0, .int .i64 0, .int .i64 n, .bool cb, .bool cs, .bool false, .int .i64 ct, .int .i64 ca]), .int .i64 0, .bool true])] #[]) a A2 m cp) (tcells 72 (.agg #[.int .i64 0, .int .i64 0, .int .i64 n, .bool cb, .bool cs, .bool false, .int .i64 ct, .int .i64 ca]) (.func (Fn.method "Next") #[.iface 72 (.agg #[.int .i64 0, .int .i64 0, .int .i64 n, .bool cb, .bool cs, .bool false, .int .i64 ct, .int .i64 ca])] #[]) a A3 m' cp') g w' → w'.cell? ⟨w6.heap.size, 2, none⟩ = some ((.int .i64 a.o)) := fun w' h => h.1.1 2 _ rfl
                have rx3 : ∀ w', S28 w6.heap.size (w6.heap.size + 1) bl (off + q * 4) (tcells 66 (.agg #[.iface 72 (.agg #[.int .i64 0, .int .i64 0, .int .i64 n, .bool cb, .bool cs, .bool false, .int .i64 ct, .int .i64 ca]), .int .i64 0, .bool true]) (.func (Fn.method "Next") #[.iface 66 (.agg #[.iface 72 (.agg #[.int .i64 0, .int .i64 0, .int .i64 n, .bool cb, .bool cs, .bool false, .int .i64 ct, .int .i64 ca]), .int .i64 0, .bool true])] #[]) a A2 m cp) (tcells 72 (.agg #[.int .i64 0, .int .i64 0, .int .i64 n, .bool cb, .bool cs, .bool false, .int .i64 ct, .int .i64 ca]) (.func (Fn.method "Next") #[.iface 72 (.agg #[.int .i64 0, .int .i64 0, .int .i64 n, .bool cb, .bool cs, .bool false, .int .i64 ct, .int .i64 ca])] #[]) a A3 m' cp') g w' → w'.cell? ⟨w6.heap.size, 3, none⟩ = some ((.int .i64 a.l)) := fun w' h => h.1.1 3 _ rfl
                have rx4 : ∀ w', S28 w6.heap.size (w6.heap.size + 1) bl (off + q * 4) (tcells 66 (.agg #[.iface 72 (.agg #[.int .i64 0, .int .i64 0, .int .i64 n, .bool cb, .bool cs, .bool false, .int .i64 ct, .int .i64 ca]), .int .i64 0, .bool true]) (.func (Fn.method "Next") #[.iface 66 (.agg #[.iface 72 (.agg #[.int .i64 0, .int .i64 0, .int .i64 n, .bool cb, .bool cs, .bool false, .int .i64 ct, .int .i64 ca]), .int .i64 0, .bool true])] #[]) a A2 m cp) (tcells 72 (.agg #[.int .i64 0, .int .i64 0, .int .i64 n, .bool cb, .bool cs, .bool false, .int .i64 ct, .int .i64 ca]) (.func (Fn.method "Next") #[.iface 72 (.agg #[.int .i64 0, .int .i64 0, .int .i64 n, .bool cb, .bool cs, .bool false, .int .i64 ct, .int .i64 ca])] #[]) a A3 m' cp') g w' → w'.cell? ⟨w6.heap.size, 4, none⟩ = some ((.int .i64 a.v)) := fun w' h => h.1.1 4 _ rfl
                have rx5 : ∀ w', S28 w6.heap.size (w6.heap.size + 1) bl (off + q * 4) (tcells 66 (.agg #[.iface 72 (.agg #[.int .i64 0, .int .i64 0, .int .i64 n, .bool cb, .bool cs, .bool false, .int .i64 ct, .int .i64 ca]), .int .i64 0, .bool true]) (.func (Fn.method "Next") #[.iface 66 (.agg #[.iface 72 (.agg #[.int .i64 0, .int .i64 0, .int .i64 n, .bool cb, .bool cs, .bool false, .int .i64 ct, .int .i64 ca]), .int .i64 0, .bool true])] #[]) a A2 m cp) (tcells 72 (.agg #[.int .i64 0, .int .i64 0, .int .i64 n, .bool cb, .bool cs, .bool false, .int .i64 ct, .int .i64 ca]) (.func (Fn.method "Next") #[.iface 72 (.agg #[.int .i64 0, .int .i64 0, .int .i64 n, .bool cb, .bool cs, .bool false, .int .i64 ct, .int .i64 ca])] #[]) a A3 m' cp') g w' → w'.cell? ⟨w6.heap.size, 5, none⟩ = some ((.int .u32 a.r)) := fun w' h => h.1.1 5 _ rfl
                have rx6 : ∀ w', S28 w6.heap.size (w6.heap.size + 1) bl (off + q * 4) (tcells 66 (.agg #[.iface 72 (.agg #[.int .i64 0, .int .i64 0, .int .i64 n, .bool cb, .bool cs, .bool false, .int .i64 ct, .int .i64 ca]), .int .i64 0, .bool true]) (.func (Fn.method "Next") #[.iface 66 (.agg #[.iface 72 (.agg #[.int .i64 0, .int .i64 0, .int .i64 n, .bool cb, .bool cs, .bool false, .int .i64 ct, .int .i64 ca]), .int .i64 0, .bool true])] #[]) a A2 m cp) (tcells 72 (.agg #[.int .i64 0, .int .i64 0, .int .i64 n, .bool cb, .bool cs, .bool false, .int .i64 ct, .int .i64 ca]) (.func (Fn.method "Next") #[.iface 72 (.agg #[.int .i64 0, .int .i64 0, .int .i64 n, .bool cb, .bool cs, .bool false, .int .i64 ct, .int .i64 ca])] #[]) a A3 m' cp') g w' → w'.cell? ⟨w6.heap.size, 6, none⟩ = some ((.int .u32 a.f)) := fun w' h => h.1.1 6 _ rfl
                have rx7 : ∀ w', S28 w6.heap.size (w6.heap.size + 1) bl (off + q * 4) (tcells 66 (.agg #[.iface 72 (.agg #[.int .i64 0, .int .i64 0, .int .i64 n, .bool cb, .bool cs, .bool false, .int .i64 ct, .int .i64 ca]), .int .i64 0, .bool true]) (.func (Fn.method "Next") #[.iface 66 (.agg #[.iface 72 (.agg #[.int .i64 0, .int .i64 0, .int .i64 n, .bool cb, .bool cs, .bool false, .int .i64 ct, .int .i64 ca]), .int .i64 0, .bool true])] #[]) a A2 m cp) (tcells 72 (.agg #[.int .i64 0, .int .i64 0, .int .i64 n, .bool cb, .bool cs, .bool false, .int .i64 ct, .int .i64 ca]) (.func (Fn.method "Next") #[.iface 72 (.agg #[.int .i64 0, .int .i64 0, .int .i64 n, .bool cb, .bool cs, .bool false, .int .i64 ct, .int .i64 ca])] #[]) a A3 m' cp') g w' → w'.cell? ⟨w6.heap.size, 7, none⟩ = some ((.int .i64 a.v2)) := fun w' h => h.1.1 7 _ rfl
                have rx8 : ∀ w', S28 w6.heap.size (w6.heap.size + 1) bl (off + q * 4) (tcells 66 (.agg #[.iface 72 (.agg #[.int .i64 0, .int .i64 0, .int .i64 n, .bool cb, .bool cs, .bool false, .int .i64 ct, .int .i64 ca]), .int .i64 0, .bool true]) (.func (Fn.method "Next") #[.iface 66 (.agg #[.iface 72 (.agg #[.int .i64 0, .int .i64 0, .int .i64 n, .bool cb, .bool cs, .bool false, .int .i64 ct, .int .i64 ca]), .int .i64 0, .bool true])] #[]) a A2 m cp) (tcells 72 (.agg #[.int .i64 0, .int .i64 0, .int .i64 n, .bool cb, .bool cs, .bool false, .int .i64 ct, .int .i64 ca]) (.func (Fn.method "Next") #[.iface 72 (.agg #[.int .i64 0, .int .i64 0, .int .i64 n, .bool cb, .bool cs, .bool false, .int .i64 ct, .int .i64 ca])] #[]) a A3 m' cp') g w' → w'.cell? ⟨w6.heap.size, 8, none⟩ = some ((.int .u32 a.r2)) := fun w' h => h.1.1 8 _ rfl
                have rx9 : ∀ w', S28 w6.heap.size (w6.heap.size + 1) bl (off + q * 4) (tcells 66 (.agg #[.iface 72 (.agg #[.int .i64 0, .int .i64 0, .int .i64 n, .bool cb, .bool cs, .bool false, .int .i64 ct, .int .i64 ca]), .int .i64 0, .bool true]) (.func (Fn.method "Next") #[.iface 66 (.agg #[.iface 72 (.agg #[.int .i64 0, .int .i64 0, .int .i64 n, .bool cb, .bool cs, .bool false, .int .i64 ct, .int .i64 ca]), .int .i64 0, .bool true])] #[]) a A2 m cp) (tcells 72 (.agg #[.int .i64 0, .int .i64 0, .int .i64 n, .bool cb, .bool cs, .bool false, .int .i64 ct, .int .i64 ca]) (.func (Fn.method "Next") #[.iface 72 (.agg #[.int .i64 0, .int .i64 0, .int .i64 n, .bool cb, .bool cs, .bool false, .int .i64 ct, .int .i64 ca])] #[]) a A3 m' cp') g w' → w'.cell? ⟨w6.heap.size, 9, none⟩ = some ((.int .u32 a.f2)) := fun w' h => h.1.1 9 _ rfl
                have rx10 : ∀ w', S28 w6.heap.size (w6.heap.size + 1) bl (off + q * 4) (tcells 66 (.agg #[.iface 72 (.agg #[.int .i64 0, .int .i64 0, .int .i64 n, .bool cb, .bool cs, .bool false, .int .i64 ct, .int .i64 ca]), .int .i64 0, .bool true]) (.func (Fn.method "Next") #[.iface 66 (.agg #[.iface 72 (.agg #[.int .i64 0, .int .i64 0, .int .i64 n, .bool cb, .bool cs, .bool false, .int .i64 ct, .int .i64 ca]), .int .i64 0, .bool true])] #[]) a A2 m cp) (tcells 72 (.agg #[.int .i64 0, .int .i64 0, .int .i64 n, .bool cb, .bool cs, .bool false, .int .i64 ct, .int .i64 ca]) (.func (Fn.method "Next") #[.iface 72 (.agg #[.int .i64 0, .int .i64 0, .int .i64 n, .bool cb, .bool cs, .bool false, .int .i64 ct, .int .i64 ca])] #[]) a A3 m' cp') g w' → w'.cell? ⟨w6.heap.size, 10, none⟩ = some (.slice A2 m cp) := fun w' h => h.1.1 10 _ rfl
                have ry0 : ∀ w', S28 w6.heap.size (w6.heap.size + 1) bl (off + q * 4) (tcells 66 (.agg #[.iface 72 (.agg #[.int .i64 0, .int .i64 0, .int .i64 n, .bool cb, .bool cs, .bool false, .int .i64 ct, .int .i64 ca]), .int .i64 0, .bool true]) (.func (Fn.method "Next") #[.iface 66 (.agg #[.iface 72 (.agg #[.int .i64 0, .int .i64 0, .int .i64 n, .bool cb, .bool cs, .bool false, .int .i64 ct, .int .i64 ca]), .int .i64 0, .bool true])] #[]) a A2 m cp) (tcells 72 (.agg #[.int .i64 0, .int .i64 0, .int .i64 n, .bool cb, .bool cs, .bool false, .int .i64 ct, .int .i64 ca]) (.func (Fn.method "Next") #[.iface 72 (.agg #[.int .i64 0, .int .i64 0, .int .i64 n, .bool cb, .bool cs, .bool false, .int .i64 ct, .int .i64 ca])] #[]) a A3 m' cp') g w' → w'.cell? ⟨w6.heap.size + 1, 0, none⟩ = some (.iface 72 (.agg #[.int .i64 0, .int .i64 0, .int .i64 n, .bool cb, .bool cs, .bool false, .int .i64 ct, .int .i64 ca])) := fun w' h => h.2.1.1 0 _ rfl
                have ry1 : ∀ w', S28 w6.heap.size (w6.heap.size + 1) bl (off + q * 4) (tcells 66 (.agg #[.iface 72 (.agg #[.int .i64 0, .int .i64 0, .int .i64 n, .bool cb, .bool cs, .bool false, .int .i64 ct, .int .i64 ca]), .int .i64 0, .bool true]) (.func (Fn.method "Next") #[.iface 66 (.agg #[.iface 72 (.agg #[.int .i64 0, .int .i64 0, .int .i64 n, .bool cb, .bool cs, .bool false, .int .i64 ct, .int .i64 ca]), .int .i64 0, .bool true])] #[]) a A2 m cp) (tcells 72 (.agg #[.int .i64 0, .int .i64 0, .int .i64 n, .bool cb, .bool cs, .bool false, .int .i64 ct, .int .i64 ca]) (.func (Fn.method "Next") #[.iface 72 (.agg #[.int .i64 0, .int .i64 0, .int .i64 n, .bool cb, .bool cs, .bool false, .int .i64 ct, .int .i64 ca])] #[]) a A3 m' cp') g w' → w'.cell? ⟨w6.heap.size + 1, 1, none⟩ = some ((.func (Fn.method "Next") #[.iface 72 (.agg #[.int .i64 0, .int .i64 0, .int .i64 n, .bool cb, .bool cs, .bool false, .int .i64 ct, .int .i64 ca])] #[])) := fun w' h => h.2.1.1 1 _ rfl
                have ry2 : ∀ w', S28 w6.heap.size (w6.heap.size + 1) bl (off + q * 4) (tcells 66 (.agg #[.iface 72 (.agg #[.int .i64 0, .int .i64 0, .int .i64 n, .bool cb, .bool cs, .bool false, .int .i64 ct, .int .i64 ca]), .int .i64 0, .bool true]) (.func (Fn.method "Next") #[.iface 66 (.agg #[.iface 72 (.agg #[.int .i64 0, .int .i64 0, .int .i64 n, .bool cb, .bool cs, .bool false, .int .i64 ct, .int .i64 ca]), .int .i64 0, .bool true])] #[]) a A2 m cp) (tcells 72 (.agg #[.int .i64 0, .int .i64 0, .int .i64 n, .bool cb, .bool cs, .bool false, .int .i64 ct, .int .i64 ca]) (.func (Fn.method "Next") #[.iface 72 (.agg #[.int .i64 0, .int .i64 0, .int .i64 n, .bool cb, .bool cs, .bool false, .int .i64 ct, .int .i64 ca])] #[]) a A3 m' cp') g w' → w'.cell? ⟨w6.heap.size + 1, 2, none⟩ = some ((.int .i64 a.o)) := fun w' h => h.2.1.1 2 _ rfl
                have ry3 : ∀ w', S28 w6.heap.size (w6.heap.size + 1) bl (off + q * 4) (tcells 66 (.agg #[.iface 72 (.agg #[.int .i64 0, .int .i64 0, .int .i64 n, .bool cb, .bool cs, .bool false, .int .i64 ct, .int .i64 ca]), .int .i64 0, .bool true]) (.func (Fn.method "Next") #[.iface 66 (.agg #[.iface 72 (.agg #[.int .i64 0, .int .i64 0, .int .i64 n, .bool cb, .bool cs, .bool false, .int .i64 ct, .int .i64 ca]), .int .i64 0, .bool true])] #[]) a A2 m cp) (tcells 72 (.agg #[.int .i64 0, .int .i64 0, .int .i64 n, .bool cb, .bool cs, .bool false, .int .i64 ct, .int .i64 ca]) (.func (Fn.method "Next") #[.iface 72 (.agg #[.int .i64 0, .int .i64 0, .int .i64 n, .bool cb, .bool cs, .bool false, .int .i64 ct, .int .i64 ca])] #[]) a A3 m' cp') g w' → w'.cell? ⟨w6.heap.size + 1, 3, none⟩ = some ((.int .i64 a.l)) := fun w' h => h.2.1.1 3 _ rfl
                have ry4 : ∀ w', S28 w6.heap.size (w6.heap.size + 1) bl (off + q * 4) (tcells 66 (.agg #[.iface 72 (.agg #[.int .i64 0, .int .i64 0, .int .i64 n, .bool cb, .bool cs, .bool false, .int .i64 ct, .int .i64 ca]), .int .i64 0, .bool true]) (.func (Fn.method "Next") #[.iface 66 (.agg #[.iface 72 (.agg #[.int .i64 0, .int .i64 0, .int .i64 n, .bool cb, .bool cs, .bool false, .int .i64 ct, .int .i64 ca]), .int .i64 0, .bool true])] #[]) a A2 m cp) (tcells 72 (.agg #[.int .i64 0, .int .i64 0, .int .i64 n, .bool cb, .bool cs, .bool false, .int .i64 ct, .int .i64 ca]) (.func (Fn.method "Next") #[.iface 72 (.agg #[.int .i64 0, .int .i64 0, .int .i64 n, .bool cb, .bool cs, .bool false, .int .i64 ct, .int .i64 ca])] #[]) a A3 m' cp') g w' → w'.cell? ⟨w6.heap.size + 1, 4, none⟩ = some ((.int .i64 a.v)) := fun w' h => h.2.1.1 4 _ rfl
                have ry5 : ∀ w', S28 w6.heap.size (w6.heap.size + 1) bl (off + q * 4) (tcells 66 (.agg #[.iface 72 (.agg #[.int .i64 0, .int .i64 0, .int .i64 n, .bool cb, .bool cs, .bool false, .int .i64 ct, .int .i64 ca]), .int .i64 0, .bool true]) (.func (Fn.method "Next") #[.iface 66 (.agg #[.iface 72 (.agg #[.int .i64 0, .int .i64 0, .int .i64 n, .bool cb, .bool cs, .bool false, .int .i64 ct, .int .i64 ca]), .int .i64 0, .bool true])] #[]) a A2 m cp) (tcells 72 (.agg #[.int .i64 0, .int .i64 0, .int .i64 n, .bool cb, .bool cs, .bool false, .int .i64 ct, .int .i64 ca]) (.func (Fn.method "Next") #[.iface 72 (.agg #[.int .i64 0, .int .i64 0, .int .i64 n, .bool cb, .bool cs, .bool false, .int .i64 ct, .int .i64 ca])] #[]) a A3 m' cp') g w' → w'.cell? ⟨w6.heap.size + 1, 5, none⟩ = some ((.int .u32 a.r)) := fun w' h => h.2.1.1 5 _ rfl
                have ry6 : ∀ w', S28 w6.heap.size (w6.heap.size + 1) bl (off + q * 4) (tcells 66 (.agg #[.iface 72 (.agg #[.int .i64 0, .int .i64 0, .int .i64 n, .bool cb, .bool cs, .bool false, .int .i64 ct, .int .i64 ca]), .int .i64 0, .bool true]) (.func (Fn.method "Next") #[.iface 66 (.agg #[.iface 72 (.agg #[.int .i64 0, .int .i64 0, .int .i64 n, .bool cb, .bool cs, .bool false, .int .i64 ct, .int .i64 ca]), .int .i64 0, .bool true])] #[]) a A2 m cp) (tcells 72 (.agg #[.int .i64 0, .int .i64 0, .int .i64 n, .bool cb, .bool cs, .bool false, .int .i64 ct, .int .i64 ca]) (.func (Fn.method "Next") #[.iface 72 (.agg #[.int .i64 0, .int .i64 0, .int .i64 n, .bool cb, .bool cs, .bool false, .int .i64 ct, .int .i64 ca])] #[]) a A3 m' cp') g w' → w'.cell? ⟨w6.heap.size + 1, 6, none⟩ = some ((.int .u32 a.f)) := fun w' h => h.2.1.1 6 _ rfl
                have ry7 : ∀ w', S28 w6.heap.size (w6.heap.size + 1) bl (off + q * 4) (tcells 66 (.agg #[.iface 72 (.agg #[.int .i64 0, .int .i64 0, .int .i64 n, .bool cb, .bool cs, .bool false, .int .i64 ct, .int .i64 ca]), .int .i64 0, .bool true]) (.func (Fn.method "Next") #[.iface 66 (.agg #[.iface 72 (.agg #[.int .i64 0, .int .i64 0, .int .i64 n, .bool cb, .bool cs, .bool false, .int .i64 ct, .int .i64 ca]), .int .i64 0, .bool true])] #[]) a A2 m cp) (tcells 72 (.agg #[.int .i64 0, .int .i64 0, .int .i64 n, .bool cb, .bool cs, .bool false, .int .i64 ct, .int .i64 ca]) (.func (Fn.method "Next") #[.iface 72 (.agg #[.int .i64 0, .int .i64 0, .int .i64 n, .bool cb, .bool cs, .bool false, .int .i64 ct, .int .i64 ca])] #[]) a A3 m' cp') g w' → w'.cell? ⟨w6.heap.size + 1, 7, none⟩ = some ((.int .i64 a.v2)) := fun w' h => h.2.1.1 7 _ rfl
                have ry8 : ∀ w', S28 w6.heap.size (w6.heap.size + 1) bl (off + q * 4) (tcells 66 (.agg #[.iface 72 (.agg #[.int .i64 0, .int .i64 0, .int .i64 n, .bool cb, .bool cs, .bool false, .int .i64 ct, .int .i64 ca]), .int .i64 0, .bool true]) (.func (Fn.method "Next") #[.iface 66 (.agg #[.iface 72 (.agg #[.int .i64 0, .int .i64 0, .int .i64 n, .bool cb, .bool cs, .bool false, .int .i64 ct, .int .i64 ca]), .int .i64 0, .bool true])] #[]) a A2 m cp) (tcells 72 (.agg #[.int .i64 0, .int .i64 0, .int .i64 n, .bool cb, .bool cs, .bool false, .int .i64 ct, .int .i64 ca]) (.func (Fn.method "Next") #[.iface 72 (.agg #[.int .i64 0, .int .i64 0, .int .i64 n, .bool cb, .bool cs, .bool false, .int .i64 ct, .int .i64 ca])] #[]) a A3 m' cp') g w' → w'.cell? ⟨w6.heap.size + 1, 8, none⟩ = some ((.int .u32 a.r2)) := fun w' h => h.2.1.1 8 _ rfl
                have ry9 : ∀ w', S28 w6.heap.size (w6.heap.size + 1) bl (off + q * 4) (tcells 66 (.agg #[.iface 72 (.agg #[.int .i64 0, .int .i64 0, .int .i64 n, .bool cb, .bool cs, .bool false, .int .i64 ct, .int .i64 ca]), .int .i64 0, .bool true]) (.func (Fn.method "Next") #[.iface 66 (.agg #[.iface 72 (.agg #[.int .i64 0, .int .i64 0, .int .i64 n, .bool cb, .bool cs, .bool false, .int .i64 ct, .int .i64 ca]), .int .i64 0, .bool true])] #[]) a A2 m cp) (tcells 72 (.agg #[.int .i64 0, .int .i64 0, .int .i64 n, .bool cb, .bool cs, .bool false, .int .i64 ct, .int .i64 ca]) (.func (Fn.method "Next") #[.iface 72 (.agg #[.int .i64 0, .int .i64 0, .int .i64 n, .bool cb, .bool cs, .bool false, .int .i64 ct, .int .i64 ca])] #[]) a A3 m' cp') g w' → w'.cell? ⟨w6.heap.size + 1, 9, none⟩ = some ((.int .u32 a.f2)) := fun w' h => h.2.1.1 9 _ rfl
                have ry10 : ∀ w', S28 w6.heap.size (w6.heap.size + 1) bl (off + q * 4) (tcells 66 (.agg #[.iface 72 (.agg #[.int .i64 0, .int .i64 0, .int .i64 n, .bool cb, .bool cs, .bool false, .int .i64 ct, .int .i64 ca]), .int .i64 0, .bool true]) (.func (Fn.method "Next") #[.iface 66 (.agg #[.iface 72 (.agg #[.int .i64 0, .int .i64 0, .int .i64 n, .bool cb, .bool cs, .bool false, .int .i64 ct, .int .i64 ca]), .int .i64 0, .bool true])] #[]) a A2 m cp) (tcells 72 (.agg #[.int .i64 0, .int .i64 0, .int .i64 n, .bool cb, .bool cs, .bool false, .int .i64 ct, .int .i64 ca]) (.func (Fn.method "Next") #[.iface 72 (.agg #[.int .i64 0, .int .i64 0, .int .i64 n, .bool cb, .bool cs, .bool false, .int .i64 ct, .int .i64 ca])] #[]) a A3 m' cp') g w' → w'.cell? ⟨w6.heap.size + 1, 10, none⟩ = some (.slice A3 m' cp') := fun w' h => h.2.1.1 10 _ rfl
                have rg0 : ∀ w', S28 w6.heap.size (w6.heap.size + 1) bl (off + q * 4) (tcells 66 (.agg #[.iface 72 (.agg #[.int .i64 0, .int .i64 0, .int .i64 n, .bool cb, .bool cs, .bool false, .int .i64 ct, .int .i64 ca]), .int .i64 0, .bool true]) (.func (Fn.method "Next") #[.iface 66 (.agg #[.iface 72 (.agg #[.int .i64 0, .int .i64 0, .int .i64 n, .bool cb, .bool cs, .bool false, .int .i64 ct, .int .i64 ca]), .int .i64 0, .bool true])] #[]) a A2 m cp) (tcells 72 (.agg #[.int .i64 0, .int .i64 0, .int .i64 n, .bool cb, .bool cs, .bool false, .int .i64 ct, .int .i64 ca]) (.func (Fn.method "Next") #[.iface 72 (.agg #[.int .i64 0, .int .i64 0, .int .i64 n, .bool cb, .bool cs, .bool false, .int .i64 ct, .int .i64 ca])] #[]) a A3 m' cp') g w' → w'.cell? ⟨bl, off + q * 4, none⟩ = some (.int .i64 g.v) := fun w' h => h.2.2.2 0 _ rfl
                have rg1 : ∀ w', S28 w6.heap.size (w6.heap.size + 1) bl (off + q * 4) (tcells 66 (.agg #[.iface 72 (.agg #[.int .i64 0, .int .i64 0, .int .i64 n, .bool cb, .bool cs, .bool false, .int .i64 ct, .int .i64 ca]), .int .i64 0, .bool true]) (.func (Fn.method "Next") #[.iface 66 (.agg #[.iface 72 (.agg #[.int .i64 0, .int .i64 0, .int .i64 n, .bool cb, .bool cs, .bool false, .int .i64 ct, .int .i64 ca]), .int .i64 0, .bool true])] #[]) a A2 m cp) (tcells 72 (.agg #[.int .i64 0, .int .i64 0, .int .i64 n, .bool cb, .bool cs, .bool false, .int .i64 ct, .int .i64 ca]) (.func (Fn.method "Next") #[.iface 72 (.agg #[.int .i64 0, .int .i64 0, .int .i64 n, .bool cb, .bool cs, .bool false, .int .i64 ct, .int .i64 ca])] #[]) a A3 m' cp') g w' → w'.cell? ⟨bl, off + q * 4 + 1, none⟩ = some (.int .u32 g.r) := fun w' h => h.2.2.2 1 _ rfl
                have rg2 : ∀ w', S28 w6.heap.size (w6.heap.size + 1) bl (off + q * 4) (tcells 66 (.agg #[.iface 72 (.agg #[.int .i64 0, .int .i64 0, .int .i64 n, .bool cb, .bool cs, .bool false, .int .i64 ct, .int .i64 ca]), .int .i64 0, .bool true]) (.func (Fn.method "Next") #[.iface 66 (.agg #[.iface 72 (.agg #[.int .i64 0, .int .i64 0, .int .i64 n, .bool cb, .bool cs, .bool false, .int .i64 ct, .int .i64 ca]), .int .i64 0, .bool true])] #[]) a A2 m cp) (tcells 72 (.agg #[.int .i64 0, .int .i64 0, .int .i64 n, .bool cb, .bool cs, .bool false, .int .i64 ct, .int .i64 ca]) (.func (Fn.method "Next") #[.iface 72 (.agg #[.int .i64 0, .int .i64 0, .int .i64 n, .bool cb, .bool cs, .bool false, .int .i64 ct, .int .i64 ca])] #[]) a A3 m' cp') g w' → w'.cell? ⟨bl, off + q * 4 + 2, none⟩ = some (.int .u32 g.f) := fun w' h => h.2.2.2 2 _ rfl
                have rg3 : ∀ w', S28 w6.heap.size (w6.heap.size + 1) bl (off + q * 4) (tcells 66 (.agg #[.iface 72 (.agg #[.int .i64 0, .int .i64 0, .int .i64 n, .bool cb, .bool cs, .bool false, .int .i64 ct, .int .i64 ca]), .int .i64 0, .bool true]) (.func (Fn.method "Next") #[.iface 66 (.agg #[.iface 72 (.agg #[.int .i64 0, .int .i64 0, .int .i64 n, .bool cb, .bool cs, .bool false, .int .i64 ct, .int .i64 ca]), .int .i64 0, .bool true])] #[]) a A2 m cp) (tcells 72 (.agg #[.int .i64 0, .int .i64 0, .int .i64 n, .bool cb, .bool cs, .bool false, .int .i64 ct, .int .i64 ca]) (.func (Fn.method "Next") #[.iface 72 (.agg #[.int .i64 0, .int .i64 0, .int .i64 n, .bool cb, .bool cs, .bool false, .int .i64 ct, .int .i64 ca])] #[]) a A3 m' cp') g w' → w'.cell? ⟨bl, off + q * 4 + 3, none⟩ = some (.bool g.k) := fun w' h => h.2.2.2 3 _ rfl
                refine wp_region_parts [{ dst := some 133, op := Op.load 39 (Operand.tmp 11), type := 39, pos := "law.go:123", after := #[], guard := none }, { dst := some 134, op := Op.move (Operand.tmp 2), type := 23, pos := "law.go:123", after := #[], guard := none }, { dst := some 135, op := Op.move (Operand.tmp 16), type := 3, pos := "law.go:123", after := #[], guard := none }, { dst := some 136, op := Op.indexAddr 23 (Operand.tmp 134) (Operand.tmp 135), type := 0, pos := "law.go:123", after := #[{ on := 1, ground := Ground.data }, { on := 2, ground := Ground.data }], guard := none }, { dst := some 137, op := Op.load 45 (Operand.tmp 136), type := 45, pos := "law.go:123", after := #[{ on := 3, ground := Ground.data }], guard := none }, { dst := some 138, op := Op.call { callee := Callee.value (Operand.func 10), args := #[Operand.tmp 133, Operand.tmp 137], argTypes := #[39, 45] }, type := 39, pos := "law.go:123", after := #[{ on := 0, ground := Ground.data }, { on := 4, ground := Ground.data }], guard := none }, { dst := some 139, op := Op.load 39 (Operand.tmp 12), type := 39, pos := "law.go:123", after := #[], guard := none }, { dst := some 140, op := Op.move (Operand.tmp 2), type := 23, pos := "law.go:123", after := #[], guard := none }, { dst := some 141, op := Op.move (Operand.tmp 16), type := 3, pos := "law.go:123", after := #[], guard := none }, { dst := some 142, op := Op.indexAddr 23 (Operand.tmp 140) (Operand.tmp 141), type := 0, pos := "law.go:123", after := #[{ on := 7, ground := Ground.data }, { on := 8, ground := Ground.data }], guard := none }, { dst := some 143, op := Op.load 45 (Operand.tmp 142), type := 45, pos := "law.go:123", after := #[{ on := 9, ground := Ground.data }], guard := none }, { dst := some 144, op := Op.call { callee := Callee.value (Operand.func 10), args := #[Operand.tmp 139, Operand.tmp 143], argTypes := #[39, 45] }, type := 39, pos := "law.go:123", after := #[{ on := 6, ground := Ground.data }, { on := 10, ground := Ground.data }, { on := 5, ground := Ground.chain }], guard := none }] 12 2 (fun w' => S28 w6.heap.size (w6.heap.size + 1) bl (off + q * 4) (tcells 66 (.agg #[.iface 72 (.agg #[.int .i64 0, .int .i64 0, .int .i64 n, .bool cb, .bool cs, .bool false, .int .i64 ct, .int .i64 ca]), .int .i64 0, .bool true]) (.func (Fn.method "Next") #[.iface 66 (.agg #[.iface 72 (.agg #[.int .i64 0, .int .i64 0, .int .i64 n, .bool cb, .bool cs, .bool false, .int .i64 ct, .int .i64 ca]), .int .i64 0, .bool true])] #[]) a A2 m cp) (tcells 72 (.agg #[.int .i64 0, .int .i64 0, .int .i64 n, .bool cb, .bool cs, .bool false, .int .i64 ct, .int .i64 ca]) (.func (Fn.method "Next") #[.iface 72 (.agg #[.int .i64 0, .int .i64 0, .int .i64 n, .bool cb, .bool cs, .bool false, .int .i64 ct, .int .i64 ca])] #[]) a A3 m' cp') g w') (by kernel_rfl) (by rfl) (by rfl) (by rfl) (by kernel_rfl) (by first | with_reducible exact S28.drew HS | with_reducible exact HS.below hb14 | with_reducible exact (HS.below hb14).below hb15) (fun hHeld => ?_)
                refine wpAnyH_take (i := 0) (v := ?_) (oi := { dst := some 133, op := Op.load 39 (Operand.tmp 11), type := 39, pos := "law.go:123", after := #[], guard := none }) (by rfl) (by kernel_rfl) (by kernel_rfl) (by kernel_rfl) (fun _ _ _ h => h) (Or.inl ⟨by rfl, ?_⟩) (by assumption) ?_; rotate_left; focus (intro w hSw; (try dsimp only at hSw); go_simp; (try with_reducible rfl); done)
                (try simp only [Act.put, List.setIfInBounds_toArray, List.set_cons_zero, List.set_cons_succ])
                refine wpAnyH_take (i := 1) (v := ?_) (oi := { dst := some 134, op := Op.move (Operand.tmp 2), type := 23, pos := "law.go:123", after := #[], guard := none }) (by rfl) (by kernel_rfl) (by kernel_rfl) (by kernel_rfl) (fun _ _ _ h => h) (Or.inl ⟨by rfl, ?_⟩) (by assumption) ?_; rotate_left; focus (intro w hSw; (try dsimp only at hSw); go_simp; (try with_reducible rfl); done)
                (try simp only [Act.put, List.setIfInBounds_toArray, List.set_cons_zero, List.set_cons_succ])
                refine wpAnyH_take (i := 2) (v := ?_) (oi := { dst := some 135, op := Op.move (Operand.tmp 16), type := 3, pos := "law.go:123", after := #[], guard := none }) (by rfl) (by kernel_rfl) (by kernel_rfl) (by kernel_rfl) (fun _ _ _ h => h) (Or.inl ⟨by rfl, ?_⟩) (by assumption) ?_; rotate_left; focus (intro w hSw; (try dsimp only at hSw); go_simp; (try with_reducible rfl); done)
                (try simp only [Act.put, List.setIfInBounds_toArray, List.set_cons_zero, List.set_cons_succ])
                refine wpAnyH_take (i := 3) (v := ?_) (oi := { dst := some 136, op := Op.indexAddr 23 (Operand.tmp 134) (Operand.tmp 135), type := 0, pos := "law.go:123", after := #[{ on := 1, ground := Ground.data }, { on := 2, ground := Ground.data }], guard := none }) (by rfl) (by kernel_rfl) (by kernel_rfl) (by kernel_rfl) (fun _ _ _ h => h) (Or.inl ⟨by rfl, ?_⟩) (by assumption) ?_; rotate_left; focus (intro w hSw; (try dsimp only at hSw); go_simp; (try with_reducible rfl); done)
                (try simp only [Act.put, List.setIfInBounds_toArray, List.set_cons_zero, List.set_cons_succ])
                refine wpAnyH_take (i := 4) (v := ?_) (oi := { dst := some 137, op := Op.load 45 (Operand.tmp 136), type := 45, pos := "law.go:123", after := #[{ on := 3, ground := Ground.data }], guard := none }) (by rfl) (by kernel_rfl) (by kernel_rfl) (by kernel_rfl) (fun _ _ _ h => h) (Or.inl ⟨by rfl, ?_⟩) (by assumption) ?_; rotate_left; focus (intro w hSw; (try dsimp only at hSw); go_simp; (try with_reducible rfl); done)
                (try simp only [Act.put, List.setIfInBounds_toArray, List.set_cons_zero, List.set_cons_succ])
                refine wpAnyH_take (i := 6) (v := ?_) (oi := { dst := some 139, op := Op.load 39 (Operand.tmp 12), type := 39, pos := "law.go:123", after := #[], guard := none }) (by rfl) (by kernel_rfl) (by kernel_rfl) (by kernel_rfl) (fun _ _ _ h => h) (Or.inl ⟨by rfl, ?_⟩) (by assumption) ?_; rotate_left; focus (intro w hSw; (try dsimp only at hSw); go_simp; (try with_reducible rfl); done)
                (try simp only [Act.put, List.setIfInBounds_toArray, List.set_cons_zero, List.set_cons_succ])
                refine wpAnyH_take (i := 7) (v := ?_) (oi := { dst := some 140, op := Op.move (Operand.tmp 2), type := 23, pos := "law.go:123", after := #[], guard := none }) (by rfl) (by kernel_rfl) (by kernel_rfl) (by kernel_rfl) (fun _ _ _ h => h) (Or.inl ⟨by rfl, ?_⟩) (by assumption) ?_; rotate_left; focus (intro w hSw; (try dsimp only at hSw); go_simp; (try with_reducible rfl); done)
                (try simp only [Act.put, List.setIfInBounds_toArray, List.set_cons_zero, List.set_cons_succ])
                refine wpAnyH_take (i := 8) (v := ?_) (oi := { dst := some 141, op := Op.move (Operand.tmp 16), type := 3, pos := "law.go:123", after := #[], guard := none }) (by rfl) (by kernel_rfl) (by kernel_rfl) (by kernel_rfl) (fun _ _ _ h => h) (Or.inl ⟨by rfl, ?_⟩) (by assumption) ?_; rotate_left; focus (intro w hSw; (try dsimp only at hSw); go_simp; (try with_reducible rfl); done)
                (try simp only [Act.put, List.setIfInBounds_toArray, List.set_cons_zero, List.set_cons_succ])
                refine wpAnyH_take (i := 9) (v := ?_) (oi := { dst := some 142, op := Op.indexAddr 23 (Operand.tmp 140) (Operand.tmp 141), type := 0, pos := "law.go:123", after := #[{ on := 7, ground := Ground.data }, { on := 8, ground := Ground.data }], guard := none }) (by rfl) (by kernel_rfl) (by kernel_rfl) (by kernel_rfl) (fun _ _ _ h => h) (Or.inl ⟨by rfl, ?_⟩) (by assumption) ?_; rotate_left; focus (intro w hSw; (try dsimp only at hSw); go_simp; (try with_reducible rfl); done)
                (try simp only [Act.put, List.setIfInBounds_toArray, List.set_cons_zero, List.set_cons_succ])
                refine wpAnyH_take (i := 10) (v := ?_) (oi := { dst := some 143, op := Op.load 45 (Operand.tmp 142), type := 45, pos := "law.go:123", after := #[{ on := 9, ground := Ground.data }], guard := none }) (by rfl) (by kernel_rfl) (by kernel_rfl) (by kernel_rfl) (fun _ _ _ h => h) (Or.inl ⟨by rfl, ?_⟩) (by assumption) ?_; rotate_left; focus (intro w hSw; (try dsimp only at hSw); go_simp; (try with_reducible rfl); done)
                (try simp only [Act.put, List.setIfInBounds_toArray, List.set_cons_zero, List.set_cons_succ])
                refine wpAnyH_ready (rs := [5]) (by kernel_rfl) (by simp) ?_
                refine AllReadyH.cons (o := { dst := some 138, op := Op.call { callee := Callee.value (Operand.func 10), args := #[Operand.tmp 133, Operand.tmp 137], argTypes := #[39, 45] }, type := 39, pos := "law.go:123", after := #[{ on := 0, ground := Ground.data }, { on := 4, ground := Ground.data }], guard := none }) (by rfl) (fun K hK => ?_) AllReadyH.nil
                go_simp
                refine (Hg1.out A2 m cp _ (by omega) (hG13.below (by repeat' (first | with_reducible exact Below.refl _ _ | with_reducible assumption | with_reducible refine Below.alloc ?_ ?_ _ | with_reducible refine Below.setCell ?_ ?_ _ | with_reducible refine Below.drew ?_ | with_reducible refine below_drewN ?_ _ | with_reducible refine Below.trans ?_ (Below.mono (by with_reducible assumption) ?_) | omega | (simp <;> omega))))).mono ?_; rintro e w14 ⟨A4, m4, cp4, rfl, hP4, hb14'⟩; have hb14 : Below _ _ w14 := (by first | with_reducible exact noDrew hb14' | exact hb14'); clear hb14'; have hs14 := hb14.size; (try simp at hs14)
                go_wp2_with fail
                refine hK.out _ _ (by first | with_reducible exact S28.drew HS | with_reducible exact HS.below hb14 | with_reducible exact (HS.below hb14).below hb15) (fun hHeld => ?_)
                clear hK K
                (try simp only [Act.put, List.setIfInBounds_toArray, List.set_cons_zero, List.set_cons_succ])
                refine wpAnyH_ready (rs := [11]) (by kernel_rfl) (by simp) ?_
                refine AllReadyH.cons (o := { dst := some 144, op := Op.call { callee := Callee.value (Operand.func 10), args := #[Operand.tmp 139, Operand.tmp 143], argTypes := #[39, 45] }, type := 39, pos := "law.go:123", after := #[{ on := 6, ground := Ground.data }, { on := 10, ground := Ground.data }, { on := 5, ground := Ground.chain }], guard := none }) (by rfl) (fun K hK => ?_) AllReadyH.nil
                go_simp
                refine (Hg2.out A3 m' cp' _ (by omega) ((hG13'.below hb14).below (by repeat' (first | with_reducible exact Below.refl _ _ | with_reducible assumption | with_reducible refine Below.alloc ?_ ?_ _ | with_reducible refine Below.setCell ?_ ?_ _ | with_reducible refine Below.drew ?_ | with_reducible refine below_drewN ?_ _ | with_reducible refine Below.trans ?_ (Below.mono (by with_reducible assumption) ?_) | omega | (simp <;> omega))))).mono ?_; rintro e w15 ⟨A5, m5, cp5, rfl, hP5, hb15'⟩; have hb15 : Below _ _ w15 := (by first | with_reducible exact noDrew hb15' | exact hb15'); clear hb15'; have hs15 := hb15.size; (try simp at hs15)
                go_wp2_with fail
                refine hK.out _ _ (by first | with_reducible exact S28.drew HS | with_reducible exact HS.below hb14 | with_reducible exact (HS.below hb14).below hb15) (fun hHeld => ?_)
                clear hK K
                (try simp only [Act.put, List.setIfInBounds_toArray, List.set_cons_zero, List.set_cons_succ])
                refine wpAnyH_done (by kernel_rfl) ?_ _
                intro fu
                refine wpAny_of_held (S := fun _ => True) _ _ _ _ ?_
                change wpAnyH _ _ _ _ _ (fu + 2) #[true, true, true, true, true, true, true, true, true, true, true, true, false, false] _ _
                have HS15 := (HS.below hb14).below hb15
                have x0 := rx0 _ HS15
                have x1 := rx1 _ HS15
                have x2 := rx2 _ HS15
                have x3 := rx3 _ HS15
                have x4 := rx4 _ HS15
                have x5 := rx5 _ HS15
                have x6 := rx6 _ HS15
                have x7 := rx7 _ HS15
                have x8 := rx8 _ HS15
                have x9 := rx9 _ HS15
                have x10 := rx10 _ HS15
                have y0 := ry0 _ HS15
                have y1 := ry1 _ HS15
                have y2 := ry2 _ HS15
                have y3 := ry3 _ HS15
                have y4 := ry4 _ HS15
                have y5 := ry5 _ HS15
                have y6 := ry6 _ HS15
                have y7 := ry7 _ HS15
                have y8 := ry8 _ HS15
                have y9 := ry9 _ HS15
                have y10 := ry10 _ HS15
                have fx := HS15.1.2.1
                have fy := HS15.2.1.2.1
                clear rx0 rx1 rx2 rx3 rx4 rx5 rx6 rx7 rx8 rx9 rx10 ry0 ry1 ry2 ry3 ry4 ry5 ry6 ry7 ry8 ry9 ry10 rg0 rg1 rg2 rg3
                refine wpAnyH_ready (rs := [12]) (by kernel_rfl) (by simp) ?_
                refine AllReadyH.cons (o := { dst := none, op := Op.store 39 (Operand.tmp 11) (Operand.tmp 138), type := 0, pos := "law.go:123", after := #[{ on := 5, ground := Ground.data }, { on := 11, ground := Ground.chain }, { on := 0, ground := Ground.phase }, { on := 1, ground := Ground.phase }, { on := 2, ground := Ground.phase }, { on := 3, ground := Ground.phase }, { on := 4, ground := Ground.phase }, { on := 5, ground := Ground.phase }, { on := 6, ground := Ground.textOnly Departure.lateStores }, { on := 7, ground := Ground.textOnly Departure.lateStores }, { on := 8, ground := Ground.textOnly Departure.lateStores }, { on := 9, ground := Ground.textOnly Departure.lateStores }, { on := 10, ground := Ground.textOnly Departure.lateStores }, { on := 11, ground := Ground.textOnly Departure.lateStoresUnsure }], guard := none }) (by rfl) (fun K hK => ?_) AllReadyH.nil
                go_simp
                refine hK.out _ _ trivial (fun hHeld => ?_)
                clear hK K
                (try simp only [Act.put, List.setIfInBounds_toArray, List.set_cons_zero, List.set_cons_succ])
                refine wpAnyH_ready (rs := [13]) (by kernel_rfl) (by simp) ?_
                refine AllReadyH.cons (o := { dst := none, op := Op.store 39 (Operand.tmp 12) (Operand.tmp 144), type := 0, pos := "law.go:123", after := #[{ on := 11, ground := Ground.data }, { on := 12, ground := Ground.chain }, { on := 0, ground := Ground.phase }, { on := 1, ground := Ground.phase }, { on := 2, ground := Ground.phase }, { on := 3, ground := Ground.phase }, { on := 4, ground := Ground.phase }, { on := 5, ground := Ground.phase }, { on := 6, ground := Ground.phase }, { on := 7, ground := Ground.phase }, { on := 8, ground := Ground.phase }, { on := 9, ground := Ground.phase }, { on := 10, ground := Ground.phase }, { on := 11, ground := Ground.phase }, { on := 12, ground := Ground.phase }], guard := none }) (by rfl) (fun K hK => ?_) AllReadyH.nil
                go_simp
                refine hK.out _ _ trivial (fun hHeld => ?_)
                clear hK K
                (try simp only [Act.put, List.setIfInBounds_toArray, List.set_cons_zero, List.set_cons_succ])
                refine wpAnyH_done (by kernel_rfl) ?_ _
                go_wp2_with fail
                have hz15 : w13.heap.size ≤ w15.heap.size := Nat.le_trans hb14.size hb15.size
                obtain ⟨hG4, hm4, hF4⟩ := hP4
                obtain ⟨hG5, hm5, hF5⟩ := hP5
                have hN4 := hF4 (w6.heap.size + 1) hN hY13.2.2
                have hN5 := hF5 (w6.heap.size + 1) hN' (by (try simp); omega)
                have hG4' := hG4.below hb15
                refine ⟨⟨q + 1, b', s', d', t', ca', a', nv1', nv2', A4, A5, m4, m5, cp4, cp5, by go_num, by omega, by omega, by omega, ?_, ?_, ?_, ?_, hN4, hN5, by omega, by omega, hd1', hd2', ?_⟩, by simp [intOf]; omega⟩
                · exact BoxC.far11 (BoxC.store11 HS15.1 _ _ _ _ _ _ _ _ _ _ _) (by omega) _ _ _ _ _ _ _ _ _ _ _
                · exact BoxC.store11 (BoxC.far11 HS15.2.1 (by omega) _ _ _ _ _ _ _ _ _ _ _) _ _ _ _ _ _ _ _ _ _ _
                · exact GotsR.set11 (GotsR.set11 hG4' (fun b off e => by have := hN4 b off e; omega) _ _ _ _ _ _ _ _ _ _ _) (fun b off e => by have := hN4 b off e; omega) _ _ _ _ _ _ _ _ _ _ _
                · exact GotsR.set11 (GotsR.set11 hG5 (fun b off e => by have := hN5 b off e; omega) _ _ _ _ _ _ _ _ _ _ _) (fun b off e => by have := hN5 b off e; omega) _ _ _ _ _ _ _ _ _ _ _
                · have hBB : Below w6.heap.size w6 w15 := hB13.trans ((hb14.trans (hb15.mono hb14.size)).mono hB13.size)
                  exact (by repeat' (first | with_reducible exact Below.refl _ _ | with_reducible assumption | with_reducible refine Below.alloc ?_ ?_ _ | with_reducible refine Below.setCell ?_ ?_ _ | with_reducible refine Below.drew ?_ | with_reducible refine below_drewN ?_ _ | with_reducible refine Below.trans ?_ (Below.mono (by with_reducible assumption) ?_) | omega | (simp <;> omega)))
              · go_wp2_with fail
                exact ⟨⟨q + 1, cb, cs, false, ct, ca, a, _, _, A2, A3, m, m', cp, cp', by go_num, by omega, by omega, by omega, hX13, hY13, hG13, hG13', hN, hN', by omega, by omega, (fun h => by cases h), (fun _ => ⟨rfl, rfl⟩), hB13⟩, by simp [intOf]; omega⟩
            | true =>
              obtain ⟨rfl, rfl, rfl⟩ := hd1 rfl
              clear hd1 hd2
              have hneq := neqAct A0
              have x0 := hX.1 0 _ rfl
              have x1 := hX.1 1 _ rfl
              have x2 := hX.1 2 _ rfl
              have x3 := hX.1 3 _ rfl
              have x4 := hX.1 4 _ rfl
              have x5 := hX.1 5 _ rfl
              have x6 := hX.1 6 _ rfl
              have x7 := hX.1 7 _ rfl
              have x8 := hX.1 8 _ rfl
              have x9 := hX.1 9 _ rfl
              have x10 := hX.1 10 _ rfl
              have y0 := hY.1 0 _ rfl
              have y1 := hY.1 1 _ rfl
              have y2 := hY.1 2 _ rfl
              have y3 := hY.1 3 _ rfl
              have y4 := hY.1 4 _ rfl
              have y5 := hY.1 5 _ rfl
              have y6 := hY.1 6 _ rfl
              have y7 := hY.1 7 _ rfl
              have y8 := hY.1 8 _ rfl
              have y9 := hY.1 9 _ rfl
              have y10 := hY.1 10 _ rfl
              have hbx : w6.heap.size < wr.heap.size := hX.2.2
              have hby : w6.heap.size + 1 < wr.heap.size := hY.2.2
              go_wp2_with fail
              refine (act_yes _ A0 A2 m cp _).mono ?_
              rintro e w7 ⟨rfl, hb7⟩
              obtain ⟨hcc7, hff7⟩ := bcell hb7
              have hs7 := hb7.size
              have hbx7 : w6.heap.size < w7.heap.size := by omega
              have hby7 : w6.heap.size + 1 < w7.heap.size := by omega
              go_wp2_with fail
              refine (act_yes _ A0 A3 m' cp' _).mono ?_
              rintro e w8 ⟨rfl, hb8⟩
              have hb0 : Below wr.heap.size wr w8 := (by repeat' (first | with_reducible exact Below.refl _ _ | with_reducible assumption | with_reducible refine Below.alloc ?_ ?_ _ | with_reducible refine Below.setCell ?_ ?_ _ | with_reducible refine Below.drew ?_ | with_reducible refine below_drewN ?_ _ | with_reducible refine Below.trans ?_ (Below.mono (by with_reducible assumption) ?_) | omega | (simp <;> omega)))
              obtain ⟨hcc8, hff8⟩ := bcell hb8
              have hs8 := hb8.size
              (try simp at hs8)
              have hbx8 : w6.heap.size < w8.heap.size := by omega
              have hby8 : w6.heap.size + 1 < w8.heap.size := by omega
              have ha8 : w7.heap.size < w8.heap.size := by omega
              go_wp2_with fail
              refine (tcode_any 66 (.agg #[.iface 72 (.agg #[.int .i64 0, .int .i64 0, .int .i64 n, .bool cb, .bool cs, .bool true, .int .i64 ct, .int .i64 ca]), .int .i64 0, .bool true]) .nilFunc A0 A2 m cp _).mono ?_
              rintro e w9 ⟨rfl, hb9⟩
              obtain ⟨hcc9, hff9⟩ := bcell hb9
              have hs9 := hb9.size
              (try simp at hs9)
              have hbx9 : w6.heap.size < w9.heap.size := by omega
              have hby9 : w6.heap.size + 1 < w9.heap.size := by omega
              have ha9 : w7.heap.size < w9.heap.size := by omega
              have hc9 : w8.heap.size < w9.heap.size := by omega
              go_wp2_with fail
              refine (inner_any (.agg #[.int .i64 0, .int .i64 0, .int .i64 n, .bool cb, .bool cs, .bool true, .int .i64 ct, .int .i64 ca]) 0 true _).mono ?_
              rintro e w10 ⟨rfl, hb10⟩
              obtain ⟨hcc10, hff10⟩ := bcell hb10
              have hs10 := hb10.size
              (try simp at hs10)
              have hbx10 : w6.heap.size < w10.heap.size := by omega
              have hby10 : w6.heap.size + 1 < w10.heap.size := by omega
              have ha10 : w7.heap.size < w10.heap.size := by omega
              have hc10 : w8.heap.size < w10.heap.size := by omega
              go_wp2_with fail
              refine (answer_any n ct ca cb cs true _).mono ?_
              rintro e w11 ⟨rfl, hb11⟩
              obtain ⟨hcc11, hff11⟩ := bcell hb11
              have hs11 := hb11.size
              (try simp at hs11)
              have hbx11 : w6.heap.size < w11.heap.size := by omega
              have hby11 : w6.heap.size + 1 < w11.heap.size := by omega
              have ha11 : w7.heap.size < w11.heap.size := by omega
              have hc11 : w8.heap.size < w11.heap.size := by omega
              go_wp2_with fail
              refine (tcode_any 72 (.agg #[.int .i64 0, .int .i64 0, .int .i64 n, .bool cb, .bool cs, .bool true, .int .i64 ct, .int .i64 ca]) .nilFunc A0 A3 m' cp' _).mono ?_
              rintro e w12 ⟨rfl, hb12⟩
              obtain ⟨hcc12, hff12⟩ := bcell hb12
              have hs12 := hb12.size
              (try simp at hs12)
              have hbx12 : w6.heap.size < w12.heap.size := by omega
              have hby12 : w6.heap.size + 1 < w12.heap.size := by omega
              have ha12 : w7.heap.size < w12.heap.size := by omega
              have hc12 : w8.heap.size < w12.heap.size := by omega
              go_wp2_with fail
              refine (answer_any n ct ca cb cs true _).mono ?_
              rintro e w13 ⟨rfl, hb13⟩
              obtain ⟨hcc13, hff13⟩ := bcell hb13
              have hs13 := hb13.size
              (try simp at hs13)
              have hbx13 : w6.heap.size < w13.heap.size := by omega
              have hby13 : w6.heap.size + 1 < w13.heap.size := by omega
              have ha13 : w7.heap.size < w13.heap.size := by omega
              have hc13 : w8.heap.size < w13.heap.size := by omega
              have u0 : w13.cell? ⟨w7.heap.size, 0, none⟩ = some (.int .i64 A0.o) := by go_simp
              have u1 : w13.cell? ⟨w7.heap.size, 1, none⟩ = some (.int .i64 A0.l) := by go_simp
              have u2 : w13.cell? ⟨w7.heap.size, 2, none⟩ = some (.int .i64 A0.v) := by go_simp
              have u3 : w13.cell? ⟨w7.heap.size, 3, none⟩ = some (.int .u32 A0.r) := by go_simp
              have u4 : w13.cell? ⟨w7.heap.size, 4, none⟩ = some (.int .u32 A0.f) := by go_simp
              have u5 : w13.cell? ⟨w7.heap.size, 5, none⟩ = some (.int .i64 A0.v2) := by go_simp
              have u6 : w13.cell? ⟨w7.heap.size, 6, none⟩ = some (.int .u32 A0.r2) := by go_simp
              have u7 : w13.cell? ⟨w7.heap.size, 7, none⟩ = some (.int .u32 A0.f2) := by go_simp
              have v0 : w13.cell? ⟨w8.heap.size, 0, none⟩ = some (.int .i64 A0.o) := by go_simp
              have v1 : w13.cell? ⟨w8.heap.size, 1, none⟩ = some (.int .i64 A0.l) := by go_simp
              have v2 : w13.cell? ⟨w8.heap.size, 2, none⟩ = some (.int .i64 A0.v) := by go_simp
              have v3 : w13.cell? ⟨w8.heap.size, 3, none⟩ = some (.int .u32 A0.r) := by go_simp
              have v4 : w13.cell? ⟨w8.heap.size, 4, none⟩ = some (.int .u32 A0.f) := by go_simp
              have v5 : w13.cell? ⟨w8.heap.size, 5, none⟩ = some (.int .i64 A0.v2) := by go_simp
              have v6 : w13.cell? ⟨w8.heap.size, 6, none⟩ = some (.int .u32 A0.r2) := by go_simp
              have v7 : w13.cell? ⟨w8.heap.size, 7, none⟩ = some (.int .u32 A0.f2) := by go_simp
              have hb13' : Below wr.heap.size wr w13 := (by repeat' (first | with_reducible exact Below.refl _ _ | with_reducible assumption | with_reducible refine Below.alloc ?_ ?_ _ | with_reducible refine Below.setCell ?_ ?_ _ | with_reducible refine Below.drew ?_ | with_reducible refine below_drewN ?_ _ | with_reducible refine Below.trans ?_ (Below.mono (by with_reducible assumption) ?_) | omega | (simp <;> omega)))
              have hX13 := hX.below hb13'
              have hY13 := hY.below hb13'
              have hG13 := hG.below hb13'
              have hG13' := hG'.below hb13'
              have hB13 : Below w6.heap.size w6 w13 := hB.trans (hb13'.mono hB.size)
              clear hcc7 hff7 hcc8 hff8 hcc9 hff9 hcc10 hff10 hcc11 hff11 hcc12 hff12 hcc13 hff13 hb0 hb7 hb8 hb9 hb10 hb11 hb12 hb13 x0 x1 x2 x3 x4 x5 x6 x7 x8 x9 x10 y0 y1 y2 y3 y4 y5 y6 y7 y8 y9 y10
              by_cases hql : q < len
              · have hz1 : l[q]? = some (l[q]'(by rw [Hl.out]; omega)) := List.getElem?_eq_getElem _
                obtain ⟨bl, off, rfl, hbb, hcA⟩ := Hr.out.elem (fun _ => rfl) hql hz1
                generalize (l[q]'(by rw [Hl.out]; omega)) = g at hcA
                have hBW : Below w.heap.size w w13 := HB6.out.trans (hB13.mono HB6.out.size)
                have HS : S28 w6.heap.size (w6.heap.size + 1) bl (off + q * 4) (tcells 66 (.agg #[.iface 72 (.agg #[.int .i64 0, .int .i64 0, .int .i64 n, .bool cb, .bool cs, .bool true, .int .i64 ct, .int .i64 ca]), .int .i64 0, .bool true]) .nilFunc A0 A2 m cp) (tcells 72 (.agg #[.int .i64 0, .int .i64 0, .int .i64 n, .bool cb, .bool cs, .bool true, .int .i64 ct, .int .i64 ca]) .nilFunc A0 A3 m' cp') g w13 := ⟨hX13, hY13, Nat.lt_of_lt_of_le hbb hBW.size, fun j u hu => (hBW.cell (p := ⟨bl, off + q * 4 + j, none⟩) hbb).trans (hcA j u hu)⟩
                have hblz : bl < w13.heap.size := Nat.lt_of_lt_of_le hbb hBW.size
                have hki : (0 : Int) ≤ (q : Int) := by omega
                have hkj : (q : Int) < (len : Int) := by omega
                obtain ⟨⟨b', s', d', t', ca'⟩, a', nv1', nv2', hst1, hst2, ht0', ht1', hd1', hd2', hg1, hg2⟩ := give_both n ⟨cb, cs, true, ct, ca⟩ g A0 .nilFunc .nilFunc ht0 (show ct ≤ 1000 by omega) (fun _ => ⟨rfl, rfl, rfl⟩) (fun h => by cases h)
                have Hg1 := hide hg1
                have Hg2 := hide hg2
                (try simp only [] at ht0' ht1')
                unfold Sto at hst1 hst2
                clear hz1 hcA hg1 hg2
                go_wp2_with fail
                clear u0 u1 u2 u3 u4 u5 u6 u7 v0 v1 v2 v3 v4 v5 v6 v7
                have rx0 : ∀ w', S28 w6.heap.size (w6.heap.size + 1) bl (off + q * 4) (tcells 66 (.agg #[.iface 72 (.agg #[.int .i64 0, .int .i64 0, .int .i64 n, .bool cb, .bool cs, .bool true, .int .i64 ct, .int .i64 ca]), .int .i64 0, .bool true]) .nilFunc A0 A2 m cp) (tcells 72 (.agg #[.int .i64 0, .int .i64 0, .int .i64 n, .bool cb, .bool cs, .bool true, .int .i64 ct, .int .i64 ca]) .nilFunc A0 A3 m' cp') g w' → w'.cell? ⟨w6.heap.size, 0, none⟩ = some (.iface 66 (.agg #[.iface 72 (.agg #[.int .i64 0, .int .i64 0, .int .i64 n, .bool cb, .bool cs, .bool true, .int .i64 ct, .int .i64 ca]), .int .i64 0, .bool true])) := fun w' h => h.1.1 0 _ rfl
                have rx1 : ∀ w', S28 w6.heap.size (w6.heap.size + 1) bl (off + q * 4) (tcells 66 (.agg #[.iface 72 (.agg #[.int .i64 0, .int .i64 0, .int .i64 n, .bool cb, .bool cs, .bool true, .int .i64 ct, .int .i64 ca]), .int .i64 0, .bool true]) .nilFunc A0 A2 m cp) (tcells 72 (.agg #[.int .i64 0, .int .i64 0, .int .i64 n, .bool cb, .bool cs, .bool true, .int .i64 ct, .int .i64 ca]) .nilFunc A0 A3 m' cp') g w' → w'.cell? ⟨w6.heap.size, 1, none⟩ = some (.nilFunc) := fun w' h => h.1.1 1 _ rfl
                have rx2 : ∀ w', S28 w6.heap.size (w6.heap.size + 1) bl (off + q * 4) (tcells 66 (.agg #[.iface 72 (.agg #[.int .i64 0, .int .i64 0, .int .i64 n, .bool cb, .bool cs, .bool true, .int .i64 ct, .int .i64 ca]), .int .i64 0, .bool true]) .nilFunc A0 A2 m cp) (tcells 72 (.agg #[.int .i64 0, .int .i64 0, .int .i64 n, .bool cb, .bool cs, .bool true, .int .i64 ct, .int .i64 ca]) .nilFunc A0 A3 m' cp') g w' → w'.cell? ⟨w6.heap.size, 2, none⟩ = some ((.int .i64 A0.o)) := fun w' h => h.1.1 2 _ rfl
                have rx3 : ∀ w', S28 w6.heap.size (w6.heap.size + 1) bl (off + q * 4) (tcells 66 (.agg #[.iface 72 (.agg #[.int .i64 0, .int .i64 0, .int .i64 n, .bool cb, .bool cs, .bool true, .int .i64 ct, .int .i64 ca]), .int .i64 0, .bool true]) .nilFunc A0 A2 m cp) (tcells 72 (.agg #[.int .i64 0, .int .i64 0, .int .i64 n, .bool cb, .bool cs, .bool true, .int .i64 ct, .int .i64 ca]) .nilFunc A0 A3 m' cp') g w' → w'.cell? ⟨w6.heap.size, 3, none⟩ = some ((.int .i64 A0.l)) := fun w' h => h.1.1 3 _ rfl
                have rx4 : ∀ w', S28 w6.heap.size (w6.heap.size + 1) bl (off + q * 4) (tcells 66 (.agg #[.iface 72 (.agg #[.int .i64 0, .int .i64 0, .int .i64 n, .bool cb, .bool cs, .bool true, .int .i64 ct, .int .i64 ca]), .int .i64 0, .bool true]) .nilFunc A0 A2 m cp) (tcells 72 (.agg #[.int .i64 0, .int .i64 0, .int .i64 n, .bool cb, .bool cs, .bool true, .int .i64 ct, .int .i64 ca]) .nilFunc A0 A3 m' cp') g w' → w'.cell? ⟨w6.heap.size, 4, none⟩ = some ((.int .i64 A0.v)) := fun w' h => h.1.1 4 _ rfl
                have rx5 : ∀ w', S28 w6.heap.size (w6.heap.size + 1) bl (off + q * 4) (tcells 66 (.agg #[.iface 72 (.agg #[.int .i64 0, .int .i64 0, .int .i64 n, .bool cb, .bool cs, .bool true, .int .i64 ct, .int .i64 ca]), .int .i64 0, .bool true]) .nilFunc A0 A2 m cp) (tcells 72 (.agg #[.int .i64 0, .int .i64 0, .int .i64 n, .bool cb, .bool cs, .bool true, .int .i64 ct, .int .i64 ca]) .nilFunc A0 A3 m' cp') g w' → w'.cell? ⟨w6.heap.size, 5, none⟩ = some ((.int .u32 A0.r)) := fun w' h => h.1.1 5 _ rfl
                have rx6 : ∀ w', S28 w6.heap.size (w6.heap.size + 1) bl (off + q * 4) (tcells 66 (.agg #[.iface 72 (.agg #[.int .i64 0, .int .i64 0, .int .i64 n, .bool cb, .bool cs, .bool true, .int .i64 ct, .int .i64 ca]), .int .i64 0, .bool true]) .nilFunc A0 A2 m cp) (tcells 72 (.agg #[.int .i64 0, .int .i64 0, .int .i64 n, .bool cb, .bool cs, .bool true, .int .i64 ct, .int .i64 ca]) .nilFunc A0 A3 m' cp') g w' → w'.cell? ⟨w6.heap.size, 6, none⟩ = some ((.int .u32 A0.f)) := fun w' h => h.1.1 6 _ rfl
                have rx7 : ∀ w', S28 w6.heap.size (w6.heap.size + 1) bl (off + q * 4) (tcells 66 (.agg #[.iface 72 (.agg #[.int .i64 0, .int .i64 0, .int .i64 n, .bool cb, .bool cs, .bool true, .int .i64 ct, .int .i64 ca]), .int .i64 0, .bool true]) .nilFunc A0 A2 m cp) (tcells 72 (.agg #[.int .i64 0, .int .i64 0, .int .i64 n, .bool cb, .bool cs, .bool true, .int .i64 ct, .int .i64 ca]) .nilFunc A0 A3 m' cp') g w' → w'.cell? ⟨w6.heap.size, 7, none⟩ = some ((.int .i64 A0.v2)) := fun w' h => h.1.1 7 _ rfl
                have rx8 : ∀ w', S28 w6.heap.size (w6.heap.size + 1) bl (off + q * 4) (tcells 66 (.agg #[.iface 72 (.agg #[.int .i64 0, .int .i64 0, .int .i64 n, .bool cb, .bool cs, .bool true, .int .i64 ct, .int .i64 ca]), .int .i64 0, .bool true]) .nilFunc A0 A2 m cp) (tcells 72 (.agg #[.int .i64 0, .int .i64 0, .int .i64 n, .bool cb, .bool cs, .bool true, .int .i64 ct, .int .i64 ca]) .nilFunc A0 A3 m' cp') g w' → w'.cell? ⟨w6.heap.size, 8, none⟩ = some ((.int .u32 A0.r2)) := fun w' h => h.1.1 8 _ rfl
                have rx9 : ∀ w', S28 w6.heap.size (w6.heap.size + 1) bl (off + q * 4) (tcells 66 (.agg #[.iface 72 (.agg #[.int .i64 0, .int .i64 0, .int .i64 n, .bool cb, .bool cs, .bool true, .int .i64 ct, .int .i64 ca]), .int .i64 0, .bool true]) .nilFunc A0 A2 m cp) (tcells 72 (.agg #[.int .i64 0, .int .i64 0, .int .i64 n, .bool cb, .bool cs, .bool true, .int .i64 ct, .int .i64 ca]) .nilFunc A0 A3 m' cp') g w' → w'.cell? ⟨w6.heap.size, 9, none⟩ = some ((.int .u32 A0.f2)) := fun w' h => h.1.1 9 _ rfl
                have rx10 : ∀ w', S28 w6.heap.size (w6.heap.size + 1) bl (off + q * 4) (tcells 66 (.agg #[.iface 72 (.agg #[.int .i64 0, .int .i64 0, .int .i64 n, .bool cb, .bool cs, .bool true, .int .i64 ct, .int .i64 ca]), .int .i64 0, .bool true]) .nilFunc A0 A2 m cp) (tcells 72 (.agg #[.int .i64 0, .int .i64 0, .int .i64 n, .bool cb, .bool cs, .bool true, .int .i64 ct, .int .i64 ca]) .nilFunc A0 A3 m' cp') g w' → w'.cell? ⟨w6.heap.size, 10, none⟩ = some (.slice A2 m cp) := fun w' h => h.1.1 10 _ rfl
                have ry0 : ∀ w', S28 w6.heap.size (w6.heap.size + 1) bl (off + q * 4) (tcells 66 (.agg #[.iface 72 (.agg #[.int .i64 0, .int .i64 0, .int .i64 n, .bool cb, .bool cs, .bool true, .int .i64 ct, .int .i64 ca]), .int .i64 0, .bool true]) .nilFunc A0 A2 m cp) (tcells 72 (.agg #[.int .i64 0, .int .i64 0, .int .i64 n, .bool cb, .bool cs, .bool true, .int .i64 ct, .int .i64 ca]) .nilFunc A0 A3 m' cp') g w' → w'.cell? ⟨w6.heap.size + 1, 0, none⟩ = some (.iface 72 (.agg #[.int .i64 0, .int .i64 0, .int .i64 n, .bool cb, .bool cs, .bool true, .int .i64 ct, .int .i64 ca])) := fun w' h => h.2.1.1 0 _ rfl
                have ry1 : ∀ w', S28 w6.heap.size (w6.heap.size + 1) bl (off + q * 4) (tcells 66 (.agg #[.iface 72 (.agg #[.int .i64 0, .int .i64 0, .int .i64 n, .bool cb, .bool cs, .bool true, .int .i64 ct, .int .i64 ca]), .int .i64 0, .bool true]) .nilFunc A0 A2 m cp) (tcells 72 (.agg #[.int .i64 0, .int .i64 0, .int .i64 n, .bool cb, .bool cs, .bool true, .int .i64 ct, .int .i64 ca]) .nilFunc A0 A3 m' cp') g w' → w'.cell? ⟨w6.heap.size + 1, 1, none⟩ = some (.nilFunc) := fun w' h => h.2.1.1 1 _ rfl
                have ry2 : ∀ w', S28 w6.heap.size (w6.heap.size + 1) bl (off + q * 4) (tcells 66 (.agg #[.iface 72 (.agg #[.int .i64 0, .int .i64 0, .int .i64 n, .bool cb, .bool cs, .bool true, .int .i64 ct, .int .i64 ca]), .int .i64 0, .bool true]) .nilFunc A0 A2 m cp) (tcells 72 (.agg #[.int .i64 0, .int .i64 0, .int .i64 n, .bool cb, .bool cs, .bool true, .int .i64 ct, .int .i64 ca]) .nilFunc A0 A3 m' cp') g w' → w'.cell? ⟨w6.heap.size + 1, 2, none⟩ = some ((.int .i64 A0.o)) := fun w' h => h.2.1.1 2 _ rfl
                have ry3 : ∀ w', S28 w6.heap.size (w6.heap.size + 1) bl (off + q * 4) (tcells 66 (.agg #[.iface 72 (.agg #[.int .i64 0, .int .i64 0, .int .i64 n, .bool cb, .bool cs, .bool true, .int .i64 ct, .int .i64 ca]), .int .i64 0, .bool true]) .nilFunc A0 A2 m cp) (tcells 72 (.agg #[.int .i64 0, .int .i64 0, .int .i64 n, .bool cb, .bool cs, .bool true, .int .i64 ct, .int .i64 ca]) .nilFunc A0 A3 m' cp') g w' → w'.cell? ⟨w6.heap.size + 1, 3, none⟩ = some ((.int .i64 A0.l)) := fun w' h => h.2.1.1 3 _ rfl
                have ry4 : ∀ w', S28 w6.heap.size (w6.heap.size + 1) bl (off + q * 4) (tcells 66 (.agg #[.iface 72 (.agg #[.int .i64 0, .int .i64 0, .int .i64 n, .bool cb, .bool cs, .bool true, .int .i64 ct, .int .i64 ca]), .int .i64 0, .bool true]) .nilFunc A0 A2 m cp) (tcells 72 (.agg #[.int .i64 0, .int .i64 0, .int .i64 n, .bool cb, .bool cs, .bool true, .int .i64 ct, .int .i64 ca]) .nilFunc A0 A3 m' cp') g w' → w'.cell? ⟨w6.heap.size + 1, 4, none⟩ = some ((.int .i64 A0.v)) := fun w' h => h.2.1.1 4 _ rfl
                have ry5 : ∀ w', S28 w6.heap.size (w6.heap.size + 1) bl (off + q * 4) (tcells 66 (.agg #[.iface 72 (.agg #[.int .i64 0, .int .i64 0, .int .i64 n, .bool cb, .bool cs, .bool true, .int .i64 ct, .int .i64 ca]), .int .i64 0, .bool true]) .nilFunc A0 A2 m cp) (tcells 72 (.agg #[.int .i64 0, .int .i64 0, .int .i64 n, .bool cb, .bool cs, .bool true, .int .i64 ct, .int .i64 ca]) .nilFunc A0 A3 m' cp') g w' → w'.cell? ⟨w6.heap.size + 1, 5, none⟩ = some ((.int .u32 A0.r)) := fun w' h => h.2.1.1 5 _ rfl
                have ry6 : ∀ w', S28 w6.heap.size (w6.heap.size + 1) bl (off + q * 4) (tcells 66 (.agg #[.iface 72 (.agg #[.int .i64 0, .int .i64 0, .int .i64 n, .bool cb, .bool cs, .bool true, .int .i64 ct, .int .i64 ca]), .int .i64 0, .bool true]) .nilFunc A0 A2 m cp) (tcells 72 (.agg #[.int .i64 0, .int .i64 0, .int .i64 n, .bool cb, .bool cs, .bool true, .int .i64 ct, .int .i64 ca]) .nilFunc A0 A3 m' cp') g w' → w'.cell? ⟨w6.heap.size + 1, 6, none⟩ = some ((.int .u32 A0.f)) := fun w' h => h.2.1.1 6 _ rfl
                have ry7 : ∀ w', S28 w6.heap.size (w6.heap.size + 1) bl (off + q * 4) (tcells 66 (.agg #[.iface 72 (.agg #[.int .i64 0, .int .i64 0, .int .i64 n, .bool cb, .bool cs, .bool true, .int .i64 ct, .int .i64 ca]), .int .i64 0, .bool true]) .nilFunc A0 A2 m cp) (tcells 72 (.agg #[.int .i64 0, .int .i64 0, .int .i64 n, .bool cb, .bool cs, .bool true, .int .i64 ct, .int .i64 ca]) .nilFunc A0 A3 m' cp') g w' → w'.cell? ⟨w6.heap.size + 1, 7, none⟩ = some ((.int .i64 A0.v2)) := fun w' h => h.2.1.1 7 _ rfl
                have ry8 : ∀ w', S28 w6.heap.size (w6.heap.size + 1) bl (off + q * 4) (tcells 66 (.agg #[.iface 72 (.agg #[.int .i64 0, .int .i64 0, .int .i64 n, .bool cb, .bool cs, .bool true, .int .i64 ct, .int .i64 ca]), .int .i64 0, .bool true]) .nilFunc A0 A2 m cp) (tcells 72 (.agg #[.int .i64 0, .int .i64 0, .int .i64 n, .bool cb, .bool cs, .bool true, .int .i64 ct, .int .i64 ca]) .nilFunc A0 A3 m' cp') g w' → w'.cell? ⟨w6.heap.size + 1, 8, none⟩ = some ((.int .u32 A0.r2)) := fun w' h => h.2.1.1 8 _ rfl
                have ry9 : ∀ w', S28 w6.heap.size (w6.heap.size + 1) bl (off + q * 4) (tcells 66 (.agg #[.iface 72 (.agg #[.int .i64 0, .int .i64 0, .int .i64 n, .bool cb, .bool cs, .bool true, .int .i64 ct, .int .i64 ca]), .int .i64 0, .bool true]) .nilFunc A0 A2 m cp) (tcells 72 (.agg #[.int .i64 0, .int .i64 0, .int .i64 n, .bool cb, .bool cs, .bool true, .int .i64 ct, .int .i64 ca]) .nilFunc A0 A3 m' cp') g w' → w'.cell? ⟨w6.heap.size + 1, 9, none⟩ = some ((.int .u32 A0.f2)) := fun w' h => h.2.1.1 9 _ rfl
                have ry10 : ∀ w', S28 w6.heap.size (w6.heap.size + 1) bl (off + q * 4) (tcells 66 (.agg #[.iface 72 (.agg #[.int .i64 0, .int .i64 0, .int .i64 n, .bool cb, .bool cs, .bool true, .int .i64 ct, .int .i64 ca]), .int .i64 0, .bool true]) .nilFunc A0 A2 m cp) (tcells 72 (.agg #[.int .i64 0, .int .i64 0, .int .i64 n, .bool cb, .bool cs, .bool true, .int .i64 ct, .int .i64 ca]) .nilFunc A0 A3 m' cp') g w' → w'.cell? ⟨w6.heap.size + 1, 10, none⟩ = some (.slice A3 m' cp') := fun w' h => h.2.1.1 10 _ rfl
                have rg0 : ∀ w', S28 w6.heap.size (w6.heap.size + 1) bl (off + q * 4) (tcells 66 (.agg #[.iface 72 (.agg #[.int .i64 0, .int .i64 0, .int .i64 n, .bool cb, .bool cs, .bool true, .int .i64 ct, .int .i64 ca]), .int .i64 0, .bool true]) .nilFunc A0 A2 m cp) (tcells 72 (.agg #[.int .i64 0, .int .i64 0, .int .i64 n, .bool cb, .bool cs, .bool true, .int .i64 ct, .int .i64 ca]) .nilFunc A0 A3 m' cp') g w' → w'.cell? ⟨bl, off + q * 4, none⟩ = some (.int .i64 g.v) := fun w' h => h.2.2.2 0 _ rfl
                have rg1 : ∀ w', S28 w6.heap.size (w6.heap.size + 1) bl (off + q * 4) (tcells 66 (.agg #[.iface 72 (.agg #[.int .i64 0, .int .i64 0, .int .i64 n, .bool cb, .bool cs, .bool true, .int .i64 ct, .int .i64 ca]), .int .i64 0, .bool true]) .nilFunc A0 A2 m cp) (tcells 72 (.agg #[.int .i64 0, .int .i64 0, .int .i64 n, .bool cb, .bool cs, .bool true, .int .i64 ct, .int .i64 ca]) .nilFunc A0 A3 m' cp') g w' → w'.cell? ⟨bl, off + q * 4 + 1, none⟩ = some (.int .u32 g.r) := fun w' h => h.2.2.2 1 _ rfl
                have rg2 : ∀ w', S28 w6.heap.size (w6.heap.size + 1) bl (off + q * 4) (tcells 66 (.agg #[.iface 72 (.agg #[.int .i64 0, .int .i64 0, .int .i64 n, .bool cb, .bool cs, .bool true, .int .i64 ct, .int .i64 ca]), .int .i64 0, .bool true]) .nilFunc A0 A2 m cp) (tcells 72 (.agg #[.int .i64 0, .int .i64 0, .int .i64 n, .bool cb, .bool cs, .bool true, .int .i64 ct, .int .i64 ca]) .nilFunc A0 A3 m' cp') g w' → w'.cell? ⟨bl, off + q * 4 + 2, none⟩ = some (.int .u32 g.f) := fun w' h => h.2.2.2 2 _ rfl
                have rg3 : ∀ w', S28 w6.heap.size (w6.heap.size + 1) bl (off + q * 4) (tcells 66 (.agg #[.iface 72 (.agg #[.int .i64 0, .int .i64 0, .int .i64 n, .bool cb, .bool cs, .bool true, .int .i64 ct, .int .i64 ca]), .int .i64 0, .bool true]) .nilFunc A0 A2 m cp) (tcells 72 (.agg #[.int .i64 0, .int .i64 0, .int .i64 n, .bool cb, .bool cs, .bool true, .int .i64 ct, .int .i64 ca]) .nilFunc A0 A3 m' cp') g w' → w'.cell? ⟨bl, off + q * 4 + 3, none⟩ = some (.bool g.k) := fun w' h => h.2.2.2 3 _ rfl
                refine wp_region_parts [{ dst := some 133, op := Op.load 39 (Operand.tmp 11), type := 39, pos := "law.go:123", after := #[], guard := none }, { dst := some 134, op := Op.move (Operand.tmp 2), type := 23, pos := "law.go:123", after := #[], guard := none }, { dst := some 135, op := Op.move (Operand.tmp 16), type := 3, pos := "law.go:123", after := #[], guard := none }, { dst := some 136, op := Op.indexAddr 23 (Operand.tmp 134) (Operand.tmp 135), type := 0, pos := "law.go:123", after := #[{ on := 1, ground := Ground.data }, { on := 2, ground := Ground.data }], guard := none }, { dst := some 137, op := Op.load 45 (Operand.tmp 136), type := 45, pos := "law.go:123", after := #[{ on := 3, ground := Ground.data }], guard := none }, { dst := some 138, op := Op.call { callee := Callee.value (Operand.func 10), args := #[Operand.tmp 133, Operand.tmp 137], argTypes := #[39, 45] }, type := 39, pos := "law.go:123", after := #[{ on := 0, ground := Ground.data }, { on := 4, ground := Ground.data }], guard := none }, { dst := some 139, op := Op.load 39 (Operand.tmp 12), type := 39, pos := "law.go:123", after := #[], guard := none }, { dst := some 140, op := Op.move (Operand.tmp 2), type := 23, pos := "law.go:123", after := #[], guard := none }, { dst := some 141, op := Op.move (Operand.tmp 16), type := 3, pos := "law.go:123", after := #[], guard := none }, { dst := some 142, op := Op.indexAddr 23 (Operand.tmp 140) (Operand.tmp 141), type := 0, pos := "law.go:123", after := #[{ on := 7, ground := Ground.data }, { on := 8, ground := Ground.data }], guard := none }, { dst := some 143, op := Op.load 45 (Operand.tmp 142), type := 45, pos := "law.go:123", after := #[{ on := 9, ground := Ground.data }], guard := none }, { dst := some 144, op := Op.call { callee := Callee.value (Operand.func 10), args := #[Operand.tmp 139, Operand.tmp 143], argTypes := #[39, 45] }, type := 39, pos := "law.go:123", after := #[{ on := 6, ground := Ground.data }, { on := 10, ground := Ground.data }, { on := 5, ground := Ground.chain }], guard := none }] 12 2 (fun w' => S28 w6.heap.size (w6.heap.size + 1) bl (off + q * 4) (tcells 66 (.agg #[.iface 72 (.agg #[.int .i64 0, .int .i64 0, .int .i64 n, .bool cb, .bool cs, .bool true, .int .i64 ct, .int .i64 ca]), .int .i64 0, .bool true]) .nilFunc A0 A2 m cp) (tcells 72 (.agg #[.int .i64 0, .int .i64 0, .int .i64 n, .bool cb, .bool cs, .bool true, .int .i64 ct, .int .i64 ca]) .nilFunc A0 A3 m' cp') g w') (by kernel_rfl) (by rfl) (by rfl) (by rfl) (by kernel_rfl) (by first | with_reducible exact S28.drew HS | with_reducible exact HS.below hb14 | with_reducible exact (HS.below hb14).below hb15) (fun hHeld => ?_)
                refine wpAnyH_take (i := 0) (v := ?_) (oi := { dst := some 133, op := Op.load 39 (Operand.tmp 11), type := 39, pos := "law.go:123", after := #[], guard := none }) (by rfl) (by kernel_rfl) (by kernel_rfl) (by kernel_rfl) (fun _ _ _ h => h) (Or.inl ⟨by rfl, ?_⟩) (by assumption) ?_; rotate_left; focus (intro w hSw; (try dsimp only at hSw); go_simp; (try with_reducible rfl); done)
                (try simp only [Act.put, List.setIfInBounds_toArray, List.set_cons_zero, List.set_cons_succ])
                refine wpAnyH_take (i := 1) (v := ?_) (oi := { dst := some 134, op := Op.move (Operand.tmp 2), type := 23, pos := "law.go:123", after := #[], guard := none }) (by rfl) (by kernel_rfl) (by kernel_rfl) (by kernel_rfl) (fun _ _ _ h => h) (Or.inl ⟨by rfl, ?_⟩) (by assumption) ?_; rotate_left; focus (intro w hSw; (try dsimp only at hSw); go_simp; (try with_reducible rfl); done)
                (try simp only [Act.put, List.setIfInBounds_toArray, List.set_cons_zero, List.set_cons_succ])
                refine wpAnyH_take (i := 2) (v := ?_) (oi := { dst := some 135, op := Op.move (Operand.tmp 16), type := 3, pos := "law.go:123", after := #[], guard := none }) (by rfl) (by kernel_rfl) (by kernel_rfl) (by kernel_rfl) (fun _ _ _ h => h) (Or.inl ⟨by rfl, ?_⟩) (by assumption) ?_; rotate_left; focus (intro w hSw; (try dsimp only at hSw); go_simp; (try with_reducible rfl); done)
                (try simp only [Act.put, List.setIfInBounds_toArray, List.set_cons_zero, List.set_cons_succ])
                refine wpAnyH_take (i := 3) (v := ?_) (oi := { dst := some 136, op := Op.indexAddr 23 (Operand.tmp 134) (Operand.tmp 135), type := 0, pos := "law.go:123", after := #[{ on := 1, ground := Ground.data }, { on := 2, ground := Ground.data }], guard := none }) (by rfl) (by kernel_rfl) (by kernel_rfl) (by kernel_rfl) (fun _ _ _ h => h) (Or.inl ⟨by rfl, ?_⟩) (by assumption) ?_; rotate_left; focus (intro w hSw; (try dsimp only at hSw); go_simp; (try with_reducible rfl); done)
                (try simp only [Act.put, List.setIfInBounds_toArray, List.set_cons_zero, List.set_cons_succ])
                refine wpAnyH_take (i := 4) (v := ?_) (oi := { dst := some 137, op := Op.load 45 (Operand.tmp 136), type := 45, pos := "law.go:123", after := #[{ on := 3, ground := Ground.data }], guard := none }) (by rfl) (by kernel_rfl) (by kernel_rfl) (by kernel_rfl) (fun _ _ _ h => h) (Or.inl ⟨by rfl, ?_⟩) (by assumption) ?_; rotate_left; focus (intro w hSw; (try dsimp only at hSw); go_simp; (try with_reducible rfl); done)
                (try simp only [Act.put, List.setIfInBounds_toArray, List.set_cons_zero, List.set_cons_succ])
                refine wpAnyH_take (i := 6) (v := ?_) (oi := { dst := some 139, op := Op.load 39 (Operand.tmp 12), type := 39, pos := "law.go:123", after := #[], guard := none }) (by rfl) (by kernel_rfl) (by kernel_rfl) (by kernel_rfl) (fun _ _ _ h => h) (Or.inl ⟨by rfl, ?_⟩) (by assumption) ?_; rotate_left; focus (intro w hSw; (try dsimp only at hSw); go_simp; (try with_reducible rfl); done)
                (try simp only [Act.put, List.setIfInBounds_toArray, List.set_cons_zero, List.set_cons_succ])
                refine wpAnyH_take (i := 7) (v := ?_) (oi := { dst := some 140, op := Op.move (Operand.tmp 2), type := 23, pos := "law.go:123", after := #[], guard := none }) (by rfl) (by kernel_rfl) (by kernel_rfl) (by kernel_rfl) (fun _ _ _ h => h) (Or.inl ⟨by rfl, ?_⟩) (by assumption) ?_; rotate_left; focus (intro w hSw; (try dsimp only at hSw); go_simp; (try with_reducible rfl); done)
                (try simp only [Act.put, List.setIfInBounds_toArray, List.set_cons_zero, List.set_cons_succ])
                refine wpAnyH_take (i := 8) (v := ?_) (oi := { dst := some 141, op := Op.move (Operand.tmp 16), type := 3, pos := "law.go:123", after := #[], guard := none }) (by rfl) (by kernel_rfl) (by kernel_rfl) (by kernel_rfl) (fun _ _ _ h => h) (Or.inl ⟨by rfl, ?_⟩) (by assumption) ?_; rotate_left; focus (intro w hSw; (try dsimp only at hSw); go_simp; (try with_reducible rfl); done)
                (try simp only [Act.put, List.setIfInBounds_toArray, List.set_cons_zero, List.set_cons_succ])
                refine wpAnyH_take (i := 9) (v := ?_) (oi := { dst := some 142, op := Op.indexAddr 23 (Operand.tmp 140) (Operand.tmp 141), type := 0, pos := "law.go:123", after := #[{ on := 7, ground := Ground.data }, { on := 8, ground := Ground.data }], guard := none }) (by rfl) (by kernel_rfl) (by kernel_rfl) (by kernel_rfl) (fun _ _ _ h => h) (Or.inl ⟨by rfl, ?_⟩) (by assumption) ?_; rotate_left; focus (intro w hSw; (try dsimp only at hSw); go_simp; (try with_reducible rfl); done)
                (try simp only [Act.put, List.setIfInBounds_toArray, List.set_cons_zero, List.set_cons_succ])
                refine wpAnyH_take (i := 10) (v := ?_) (oi := { dst := some 143, op := Op.load 45 (Operand.tmp 142), type := 45, pos := "law.go:123", after := #[{ on := 9, ground := Ground.data }], guard := none }) (by rfl) (by kernel_rfl) (by kernel_rfl) (by kernel_rfl) (fun _ _ _ h => h) (Or.inl ⟨by rfl, ?_⟩) (by assumption) ?_; rotate_left; focus (intro w hSw; (try dsimp only at hSw); go_simp; (try with_reducible rfl); done)
                (try simp only [Act.put, List.setIfInBounds_toArray, List.set_cons_zero, List.set_cons_succ])
                refine wpAnyH_ready (rs := [5]) (by kernel_rfl) (by simp) ?_
                refine AllReadyH.cons (o := { dst := some 138, op := Op.call { callee := Callee.value (Operand.func 10), args := #[Operand.tmp 133, Operand.tmp 137], argTypes := #[39, 45] }, type := 39, pos := "law.go:123", after := #[{ on := 0, ground := Ground.data }, { on := 4, ground := Ground.data }], guard := none }) (by rfl) (fun K hK => ?_) AllReadyH.nil
                go_simp
                refine (Hg1.out A2 m cp _ (by omega) (hG13.below (by repeat' (first | with_reducible exact Below.refl _ _ | with_reducible assumption | with_reducible refine Below.alloc ?_ ?_ _ | with_reducible refine Below.setCell ?_ ?_ _ | with_reducible refine Below.drew ?_ | with_reducible refine below_drewN ?_ _ | with_reducible refine Below.trans ?_ (Below.mono (by with_reducible assumption) ?_) | omega | (simp <;> omega))))).mono ?_; rintro e w14 ⟨A4, m4, cp4, rfl, hP4, hb14'⟩; have hb14 : Below _ _ w14 := (by first | with_reducible exact noDrew hb14' | exact hb14'); clear hb14'; have hs14 := hb14.size; (try simp at hs14)
                go_wp2_with fail
                refine hK.out _ _ (by first | with_reducible exact S28.drew HS | with_reducible exact HS.below hb14 | with_reducible exact (HS.below hb14).below hb15) (fun hHeld => ?_)
                clear hK K
                (try simp only [Act.put, List.setIfInBounds_toArray, List.set_cons_zero, List.set_cons_succ])
                refine wpAnyH_ready (rs := [11]) (by kernel_rfl) (by simp) ?_
                refine AllReadyH.cons (o := { dst := some 144, op := Op.call { callee := Callee.value (Operand.func 10), args := #[Operand.tmp 139, Operand.tmp 143], argTypes := #[39, 45] }, type := 39, pos := "law.go:123", after := #[{ on := 6, ground := Ground.data }, { on := 10, ground := Ground.data }, { on := 5, ground := Ground.chain }], guard := none }) (by rfl) (fun K hK => ?_) AllReadyH.nil
                go_simp
                refine (Hg2.out A3 m' cp' _ (by omega) ((hG13'.below hb14).below (by repeat' (first | with_reducible exact Below.refl _ _ | with_reducible assumption | with_reducible refine Below.alloc ?_ ?_ _ | with_reducible refine Below.setCell ?_ ?_ _ | with_reducible refine Below.drew ?_ | with_reducible refine below_drewN ?_ _ | with_reducible refine Below.trans ?_ (Below.mono (by with_reducible assumption) ?_) | omega | (simp <;> omega))))).mono ?_; rintro e w15 ⟨A5, m5, cp5, rfl, hP5, hb15'⟩; have hb15 : Below _ _ w15 := (by first | with_reducible exact noDrew hb15' | exact hb15'); clear hb15'; have hs15 := hb15.size; (try simp at hs15)
                go_wp2_with fail
                refine hK.out _ _ (by first | with_reducible exact S28.drew HS | with_reducible exact HS.below hb14 | with_reducible exact (HS.below hb14).below hb15) (fun hHeld => ?_)
                clear hK K
                (try simp only [Act.put, List.setIfInBounds_toArray, List.set_cons_zero, List.set_cons_succ])
                refine wpAnyH_done (by kernel_rfl) ?_ _
                intro fu
                refine wpAny_of_held (S := fun _ => True) _ _ _ _ ?_
                change wpAnyH _ _ _ _ _ (fu + 2) #[true, true, true, true, true, true, true, true, true, true, true, true, false, false] _ _
                have HS15 := (HS.below hb14).below hb15
                have x0 := rx0 _ HS15
                have x1 := rx1 _ HS15
                have x2 := rx2 _ HS15
                have x3 := rx3 _ HS15
                have x4 := rx4 _ HS15
                have x5 := rx5 _ HS15
                have x6 := rx6 _ HS15
                have x7 := rx7 _ HS15
                have x8 := rx8 _ HS15
                have x9 := rx9 _ HS15
                have x10 := rx10 _ HS15
                have y0 := ry0 _ HS15
                have y1 := ry1 _ HS15
                have y2 := ry2 _ HS15
                have y3 := ry3 _ HS15
                have y4 := ry4 _ HS15
                have y5 := ry5 _ HS15
                have y6 := ry6 _ HS15
                have y7 := ry7 _ HS15
                have y8 := ry8 _ HS15
                have y9 := ry9 _ HS15
                have y10 := ry10 _ HS15
                have fx := HS15.1.2.1
                have fy := HS15.2.1.2.1
                clear rx0 rx1 rx2 rx3 rx4 rx5 rx6 rx7 rx8 rx9 rx10 ry0 ry1 ry2 ry3 ry4 ry5 ry6 ry7 ry8 ry9 ry10 rg0 rg1 rg2 rg3
                refine wpAnyH_ready (rs := [12]) (by kernel_rfl) (by simp) ?_
                refine AllReadyH.cons (o := { dst := none, op := Op.store 39 (Operand.tmp 11) (Operand.tmp 138), type := 0, pos := "law.go:123", after := #[{ on := 5, ground := Ground.data }, { on := 11, ground := Ground.chain }, { on := 0, ground := Ground.phase }, { on := 1, ground := Ground.phase }, { on := 2, ground := Ground.phase }, { on := 3, ground := Ground.phase }, { on := 4, ground := Ground.phase }, { on := 5, ground := Ground.phase }, { on := 6, ground := Ground.textOnly Departure.lateStores }, { on := 7, ground := Ground.textOnly Departure.lateStores }, { on := 8, ground := Ground.textOnly Departure.lateStores }, { on := 9, ground := Ground.textOnly Departure.lateStores }, { on := 10, ground := Ground.textOnly Departure.lateStores }, { on := 11, ground := Ground.textOnly Departure.lateStoresUnsure }], guard := none }) (by rfl) (fun K hK => ?_) AllReadyH.nil
                go_simp
                refine hK.out _ _ trivial (fun hHeld => ?_)
                clear hK K
                (try simp only [Act.put, List.setIfInBounds_toArray, List.set_cons_zero, List.set_cons_succ])
                refine wpAnyH_ready (rs := [13]) (by kernel_rfl) (by simp) ?_
                refine AllReadyH.cons (o := { dst := none, op := Op.store 39 (Operand.tmp 12) (Operand.tmp 144), type := 0, pos := "law.go:123", after := #[{ on := 11, ground := Ground.data }, { on := 12, ground := Ground.chain }, { on := 0, ground := Ground.phase }, { on := 1, ground := Ground.phase }, { on := 2, ground := Ground.phase }, { on := 3, ground := Ground.phase }, { on := 4, ground := Ground.phase }, { on := 5, ground := Ground.phase }, { on := 6, ground := Ground.phase }, { on := 7, ground := Ground.phase }, { on := 8, ground := Ground.phase }, { on := 9, ground := Ground.phase }, { on := 10, ground := Ground.phase }, { on := 11, ground := Ground.phase }, { on := 12, ground := Ground.phase }], guard := none }) (by rfl) (fun K hK => ?_) AllReadyH.nil
                go_simp
                refine hK.out _ _ trivial (fun hHeld => ?_)
                clear hK K
                (try simp only [Act.put, List.setIfInBounds_toArray, List.set_cons_zero, List.set_cons_succ])
                refine wpAnyH_done (by kernel_rfl) ?_ _
                go_wp2_with fail
                have hz15 : w13.heap.size ≤ w15.heap.size := Nat.le_trans hb14.size hb15.size
                obtain ⟨hG4, hm4, hF4⟩ := hP4
                obtain ⟨hG5, hm5, hF5⟩ := hP5
                have hN4 := hF4 (w6.heap.size + 1) hN hY13.2.2
                have hN5 := hF5 (w6.heap.size + 1) hN' (by (try simp); omega)
                have hG4' := hG4.below hb15
                refine ⟨⟨q + 1, b', s', d', t', ca', a', nv1', nv2', A4, A5, m4, m5, cp4, cp5, by go_num, by omega, by omega, by omega, ?_, ?_, ?_, ?_, hN4, hN5, by omega, by omega, hd1', hd2', ?_⟩, by simp [intOf]; omega⟩
                · exact BoxC.far11 (BoxC.store11 HS15.1 _ _ _ _ _ _ _ _ _ _ _) (by omega) _ _ _ _ _ _ _ _ _ _ _
                · exact BoxC.store11 (BoxC.far11 HS15.2.1 (by omega) _ _ _ _ _ _ _ _ _ _ _) _ _ _ _ _ _ _ _ _ _ _
                · exact GotsR.set11 (GotsR.set11 hG4' (fun b off e => by have := hN4 b off e; omega) _ _ _ _ _ _ _ _ _ _ _) (fun b off e => by have := hN4 b off e; omega) _ _ _ _ _ _ _ _ _ _ _
                · exact GotsR.set11 (GotsR.set11 hG5 (fun b off e => by have := hN5 b off e; omega) _ _ _ _ _ _ _ _ _ _ _) (fun b off e => by have := hN5 b off e; omega) _ _ _ _ _ _ _ _ _ _ _
                · have hBB : Below w6.heap.size w6 w15 := hB13.trans ((hb14.trans (hb15.mono hb14.size)).mono hB13.size)
                  exact (by repeat' (first | with_reducible exact Below.refl _ _ | with_reducible assumption | with_reducible refine Below.alloc ?_ ?_ _ | with_reducible refine Below.setCell ?_ ?_ _ | with_reducible refine Below.drew ?_ | with_reducible refine below_drewN ?_ _ | with_reducible refine Below.trans ?_ (Below.mono (by with_reducible assumption) ?_) | omega | (simp <;> omega)))
              · go_wp2_with fail
                exact ⟨⟨q + 1, cb, cs, true, ct, ca, A0, _, _, A2, A3, m, m', cp, cp', by go_num, by omega, by omega, by omega, hX13, hY13, hG13, hG13', hN, hN', by omega, by omega, (fun _ => ⟨rfl, rfl, rfl⟩), (fun h => by cases h), hB13⟩, by simp [intOf]; omega⟩
          · go_wp2
            go_ret
            exact ⟨rfl, HB6.out.trans (hB.mono HB6.out.size)⟩

theorem wraps_great (n rest : Int) (A : Option Addr) (len cap : Nat) (w : World) (h : 100 < len) :
    Calls Try.prog 3 #[.int .i8 n, .int .i64 rest, .slice A len cap] w fun e w' => e = .returned (.bool true) ∧ Below w.heap.size w w' := by
  go_enter Try.func3, Try.ntmps3
  go_wp2_with fail
  refine (awake52_any _).mono ?_
  rintro e w0 ⟨rfl, hb0⟩
  go_wp2_with fail
  go_ret
  exact ⟨rfl, hb0⟩

theorem own : ownKnob Try.prog.godebug = none := by kernel_rfl

set_option maxRecDepth 100000 in
theorem walk : LawWalk Try.prog 3 #[22, 3, 23] := by
  intro H enc W base args ds p hval hA hlt
  obtain ⟨v0, v1, v2, d0, d1, d2, p0, p1, p2, rfl, rfl, rfl, h0, h1, h2⟩ := trodAll_three hA
  obtain ⟨n, rfl, rfl, rfl, wn⟩ := open_int Try.underlying22 (hval 0 22 v0 rfl rfl) h0
  obtain ⟨rest, rfl, rfl, rfl, wr⟩ := open_int Try.underlying3 (hval 1 3 v1 rfl rfl) h1
  obtain ⟨A, len, cap, l, rfl, hm, hl, hr⟩ := rd_gots (hval 2 23 v2 rfl rfl) h2
  have hn : -128 ≤ n ∧ n ≤ 127 := by
    simp [Lit.wf, IntKind.min, IntKind.max, IntKind.signed, IntKind.bits] at wn
    exact wn
  by_cases h : len ≤ 100
  · exact wraps_any n rest A len cap l W hn.1 hn.2 hl h hr
  · exact wraps_great n rest A len cap W (by omega)

set_option maxRecDepth 100000 in
theorem lifted (os : Os) (started : os.Started) (H : Type) (enc : TypeId × Value → H) :
    ReturnsInHanded {} Try.checked os 3 .any (Rows.adviseWrapsSpec.pre6 enc Try.prog Try.f3 Rows.adviseWrapsRow.domain false) (Rows.adviseWrapsSpec.post enc Try.prog Try.f3 false true false false) :=
  law_lifted (C := Try.checked) started own (by kernel_rfl) (by kernel_rfl) Try.func3 (by kernel_rfl) Try.underlying4 (by kernel_rfl)
    ⟨rfl, fun H ds h => by match ds, h with | [d1, d2, d3], _ => exact ⟨rfl, rfl, rfl⟩⟩
    (ChangeSpec.witness6 (enc := enc) (C := Try.checked) false ⟨#[], #[.int .i8 0, .int .i64 0, .slice none 0 0], []⟩ 8 (by kernel_rfl) (by kernel_rfl) (by kernel_rfl) (by kernel_rfl)) (by rw [Try.params3]; exact walk)

theorem over : Rows.adviseWrapsRow.holds Try.pinned (OpenSpec.ofChange Rows.adviseWrapsSpec) :=
  OpenClaim.holds_of_wide 3 Try.f3 rfl rfl rfl rfl rfl rfl rfl ⟨rfl, rfl, rfl, rfl, rfl⟩ rfl rfl rfl rfl rfl (by kernel_rfl) Try.func3 (by kernel_rfl)
    (of_decide_eq_true (by kernel_rfl)) (by unfold Func.isWrapper; first | (rw [if_pos (by decide +kernel)]; kernel_rfl) | (rw [if_neg (by decide +kernel)]; exact ⟨rfl, rfl⟩))
    (fun os started H enc _ => lifted os started H enc)

theorem proved : Rows.AdviseWrapsSaid := over
end Go.Proofs.Ytfldjbojonbmpaa.lawWraps
