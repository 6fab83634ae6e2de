/- Package explore: Independent at acts of any location. -/
import Derived.Test.YtnnmenmifphadaaGreatDoorQ20
import Derived.Test.YtnnmenmifphadaaGreatDoorQ45
import Derived.Test.YtnnmenmifphadaaGreatDoorQ46
set_option linter.unusedSimpArgs false
set_option linter.unusedVariables false
set_option maxRecDepth 100000
set_option maxHeartbeats 40000000
namespace Go.Proofs.YtnnmenmifphadaaGreatDoor
open Go.RowKit Go.Maps Go.Sort
def rdB (o : Int) : Bool := o == 1 || o == 2 || o == 5
def wrB (o : Int) : Bool := o == 3 || o == 4 || o == 6
def skB (o : Int) : Bool := o == 0 || o == 8
theorem reads_any (a : AS) (w : World) : Calls Tryz.prog 50 #[(acV a)] w (Ret (.bool (rdB a.o)) w) := by
 try unfold acV
 unfold rdB
 obtain ⟨o, l, v1, r1, f1, v2, r2, f2⟩ := a
 simp only
 by_cases h1 : o = 1
 ·subst h1
  go_enter Tryz.func50, Tryz.ntmps50
  go_wp2_with fail
  go_ret
  exact ⟨by simp, ab0⟩
 ·by_cases h2 : o = 2
  ·subst h2
   go_enter Tryz.func50, Tryz.ntmps50
   go_wp2_with fail
   go_ret
   exact ⟨by simp, ab0⟩
  ·go_enter Tryz.func50, Tryz.ntmps50
   go_wp2_with fail
   go_ret
   refine ⟨?_, ab0⟩
   simp [h1, h2]
structure TwoA (b : Nat) (x y : AS) (w : World) : Prop where
 bx : BoxC b (actc x) w
 yb : BoxC (b + 1) (actc y) w
 s : BoxC (b + 1 + 1) (actc x ++ actc y) w
theorem TwoA.below {b : Nat} {x y : AS} {w w' : World} (h : TwoA b x y w) (hb : Below w.heap.size w w') : TwoA b x y w' := ⟨h.bx.below hb, h.yb.below hb, h.s.below hb⟩
def indT (x y : AS) : Bool := if skB x.o || skB y.o then true else if !wrB x.o && !wrB y.o then true else if rdB x.o || rdB y.o then x.l != y.l else x.l.tdiv 8 != y.l.tdiv 8
theorem wrap_tdiv (z : Int) (h : -9223372036854775808 ≤ z ∧ z ≤ 9223372036854775807) : IntKind.i64.wrap (z.tdiv 8) = z.tdiv 8 := by
 refine IntWalk.i64_in _ ?_
 rcases Int.le_total 0 z with h0 | h0
 ·rw [Int.tdiv_eq_ediv_of_nonneg h0]
  omega
 ·obtain ⟨n, rfl⟩ : ∃ n : Int, z = -n := ⟨-z, by omega⟩
  rw [Int.neg_tdiv, Int.tdiv_eq_ediv_of_nonneg oM]
  omega
theorem ind_all (x y : AS) (w : World) (hx : -9223372036854775808 ≤ x.l ∧ x.l ≤ 9223372036854775807) (hy : -9223372036854775808 ≤ y.l ∧ y.l ≤ 9223372036854775807) : Calls Tryz.prog 19 #[(acV x), (acV y)] w (Ret (.bool (indT x y)) w) := by
 have dx := wrap_tdiv x.l hx
 have dy := wrap_tdiv y.l hy
 clear hx hy
 have hcx := fun W => mach_changes ⟨x.o, x.l, ⟨x.v, x.r, x.f⟩, ⟨x.v2, x.r2, x.f2⟩⟩ W
 have hcy := fun W => mach_changes ⟨y.o, y.l, ⟨y.v, y.r, y.f⟩, ⟨y.v2, y.r2, y.f2⟩⟩ W
 have hrx := fun W => reads_any x W
 have hry := fun W => reads_any y W
 have ew : ∀ o : Int, (decide (o = 3) || decide (o = 4) || decide (o = 6)) = wrB o := fun o => rfl
 simp only [ew] at hcx hcy
 unfold indT skB
 obtain ⟨wx, hwx⟩ : ∃ b, b = wrB x.o := ⟨_, rfl⟩
 obtain ⟨wy, hwy⟩ : ∃ b, b = wrB y.o := ⟨_, rfl⟩
 obtain ⟨rx, hrx'⟩ : ∃ b, b = rdB x.o := ⟨_, rfl⟩
 obtain ⟨ry, hry'⟩ : ∃ b, b = rdB y.o := ⟨_, rfl⟩
 rw [← hwx, ← hwy, ← hrx', ← hry']
 rw [← hwx] at hcx
 rw [← hwy] at hcy
 rw [← hrx'] at hrx
 rw [← hry'] at hry
 clear hwx hwy hrx' hry' ew
 have Hcx := hide hcx
 have Hcy := hide hcy
 have Hrx := hide hrx
 have Hry := hide hry
 clear hcx hcy hrx hry
 obtain ⟨r, hr⟩ : ∃ r, r = (if (x.o == 0 || x.o == 8) || (y.o == 0 || y.o == 8) then true else if !wx && !wy then true else if rx || ry then x.l != y.l else x.l.tdiv 8 != y.l.tdiv 8) := ⟨_, rfl⟩
 rw [← hr]
 have Hr := hide hr
 clear hr
 go_enter Tryz.func19, Tryz.ntmps19
 go_wp2_with fail
 obtain ⟨w1, hw1⟩ : ∃ W : World, W = ((w.alloc (.cells #[.int .i64 (x).o, .int .i64 (x).l, .int .i64 (x).v, .int .u32 (x).r, .int .u32 (x).f, .int .i64 (x).v2, .int .u32 (x).r2, .int .u32 (x).f2] 68)).alloc (.cells #[.int .i64 (y).o, .int .i64 (y).l, .int .i64 (y).v, .int .u32 (y).r, .int .u32 (y).f, .int .i64 (y).v2, .int .u32 (y).r2, .int .u32 (y).f2] 68)).alloc (.cells #[.int .i64 (x).o, .int .i64 (x).l, .int .i64 (x).v, .int .u32 (x).r, .int .u32 (x).f, .int .i64 (x).v2, .int .u32 (x).r2, .int .u32 (x).f2, .int .i64 (y).o, .int .i64 (y).l, .int .i64 (y).v, .int .u32 (y).r, .int .u32 (y).f, .int .i64 (y).v2, .int .u32 (y).r2, .int .u32 (y).f2] 68) := ⟨_, rfl⟩
 have hB1 : Below w.heap.size w w1 := by rw [hw1]; exact ab0
 have hs1 : w1.heap.size = w.heap.size + 1 + 1 + 1 := by rw [hw1]; simp
 have hT1 : TwoA w.heap.size x y w1 := by
  refine ⟨?_, ?_, ?_⟩
  ·rw [hw1]
   exact (BoxC.made w #[.int .i64 (x).o, .int .i64 (x).l, .int .i64 (x).v, .int .u32 (x).r, .int .u32 (x).f, .int .i64 (x).v2, .int .u32 (x).r2, .int .u32 (x).f2] 68).below ab0
  ·rw [hw1]
   have q := (BoxC.made (w.alloc (.cells #[.int .i64 (x).o, .int .i64 (x).l, .int .i64 (x).v, .int .u32 (x).r, .int .u32 (x).f, .int .i64 (x).v2, .int .u32 (x).r2, .int .u32 (x).f2] 68)) #[.int .i64 (y).o, .int .i64 (y).l, .int .i64 (y).v, .int .u32 (y).r, .int .u32 (y).f, .int .i64 (y).v2, .int .u32 (y).r2, .int .u32 (y).f2] 68).below (w' := ((w.alloc (.cells #[.int .i64 (x).o, .int .i64 (x).l, .int .i64 (x).v, .int .u32 (x).r, .int .u32 (x).f, .int .i64 (x).v2, .int .u32 (x).r2, .int .u32 (x).f2] 68)).alloc (.cells #[.int .i64 (y).o, .int .i64 (y).l, .int .i64 (y).v, .int .u32 (y).r, .int .u32 (y).f, .int .i64 (y).v2, .int .u32 (y).r2, .int .u32 (y).f2] 68)).alloc (.cells #[.int .i64 (x).o, .int .i64 (x).l, .int .i64 (x).v, .int .u32 (x).r, .int .u32 (x).f, .int .i64 (x).v2, .int .u32 (x).r2, .int .u32 (x).f2, .int .i64 (y).o, .int .i64 (y).l, .int .i64 (y).v, .int .u32 (y).r, .int .u32 (y).f, .int .i64 (y).v2, .int .u32 (y).r2, .int .u32 (y).f2] 68)) ab0
   have e : (w.alloc (.cells #[.int .i64 (x).o, .int .i64 (x).l, .int .i64 (x).v, .int .u32 (x).r, .int .u32 (x).f, .int .i64 (x).v2, .int .u32 (x).r2, .int .u32 (x).f2] 68)).heap.size = w.heap.size + 1 := by simp
   rw [e] at q
   exact q
  ·rw [hw1]
   have q := BoxC.made ((w.alloc (.cells #[.int .i64 (x).o, .int .i64 (x).l, .int .i64 (x).v, .int .u32 (x).r, .int .u32 (x).f, .int .i64 (x).v2, .int .u32 (x).r2, .int .u32 (x).f2] 68)).alloc (.cells #[.int .i64 (y).o, .int .i64 (y).l, .int .i64 (y).v, .int .u32 (y).r, .int .u32 (y).f, .int .i64 (y).v2, .int .u32 (y).r2, .int .u32 (y).f2] 68)) #[.int .i64 (x).o, .int .i64 (x).l, .int .i64 (x).v, .int .u32 (x).r, .int .u32 (x).f, .int .i64 (x).v2, .int .u32 (x).r2, .int .u32 (x).f2, .int .i64 (y).o, .int .i64 (y).l, .int .i64 (y).v, .int .u32 (y).r, .int .u32 (y).f, .int .i64 (y).v2, .int .u32 (y).r2, .int .u32 (y).f2] 68
   have e : ((w.alloc (.cells #[.int .i64 (x).o, .int .i64 (x).l, .int .i64 (x).v, .int .u32 (x).r, .int .u32 (x).f, .int .i64 (x).v2, .int .u32 (x).r2, .int .u32 (x).f2] 68)).alloc (.cells #[.int .i64 (y).o, .int .i64 (y).l, .int .i64 (y).v, .int .u32 (y).r, .int .u32 (y).f, .int .i64 (y).v2, .int .u32 (y).r2, .int .u32 (y).f2] 68)).heap.size = w.heap.size + 1 + 1 := by simp
   rw [e] at q
   exact q
 have HT1 := hide hT1
 rw [← hw1]
 clear hw1 hT1
 go_loopw [11] (fun i wr => ∃ (k : Nat) (z : Int), i = .int .i64 z ∧ z = k ∧ k ≤ 2 ∧ Hid (1 ≤ k → (x.o == 0) = false ∧ (x.o == 8) = false) ∧ Hid (2 ≤ k → (y.o == 0) = false ∧ (y.o == 8) = false) ∧ Hid (Below w1.heap.size w1 wr)) (fun i _ => 2 - (intOf i).toNat)
 case atStart => exact ⟨0, 0, rfl, rfl, by omega, hide (fun h => absurd h oM), hide (fun h => absurd h oM), hide (Below.refl _ _)⟩
 case round =>
  obtain ⟨k, z, rfl, hz, hk, Hk1, Hk2, HB⟩ := hrel
  have hsr := HB.out.size
  have hT : TwoA w.heap.size x y wr := HT1.out.below HB.out
  have hBw : Below w.heap.size w wr := hB1.trans (HB.out.mono hB1.size)
  have h3 : k = 0 ∨ k = 1 ∨ k = 2 := by omega
  rcases h3 with rfl | rfl | rfl
  ·obtain rfl : z = 0 := by omega
   have hz0 : w.heap.size < wr.heap.size := by omega
   have hz1 : w.heap.size + 1 < wr.heap.size := by omega
   have hz2 : w.heap.size + 1 + 1 < wr.heap.size := by omega
   have c0 := hT.s.at (j := 0) rfl
   have c1 := hT.s.at (j := 1) rfl
   have c2 := hT.s.at (j := 2) rfl
   have c3 := hT.s.at (j := 3) rfl
   have c4 := hT.s.at (j := 4) rfl
   have c5 := hT.s.at (j := 5) rfl
   have c6 := hT.s.at (j := 6) rfl
   have c7 := hT.s.at (j := 7) rfl
   clear hz hk hT
   by_cases h0 : x.o = 0
   ·have hrt : r = true := by rw [Hr.out, h0]; simp
    subst hrt
    clear Hr
    rw [h0] at c0
    go_wp2_with fail
    all_goals go_ret
    all_goals exact ⟨rfl, ab0⟩
   have b0 : (x.o == 0) = false := by simpa using h0
   clear h0
   by_cases h8 : x.o = 8
   ·have hrt : r = true := by rw [Hr.out, h8]; simp
    subst hrt
    clear Hr
    rw [h8] at c0
    go_wp2_with fail
    all_goals go_ret
    all_goals exact ⟨rfl, ab0⟩
   have b8 : (x.o == 8) = false := by simpa using h8
   clear h8
   have hk1' : Hid (1 ≤ 1 → (x.o == 0) = false ∧ (x.o == 8) = false) := hide (fun _ => ⟨b0, b8⟩)
   have hk2' : Hid (2 ≤ 1 → (y.o == 0) = false ∧ (y.o == 8) = false) := hide (fun h => absurd h oM)
   have HBw := hide hBw
   clear Hk1 Hk2 hBw
   go_wp2_with fail
   all_goals first
    | exact ⟨⟨1, 1, by go_num, rfl, by omega, hk1', hk2', hide (HB.out.trans (ab0))⟩, by simp [intOf]⟩
    | ((repeat apply Exists.intro); exact ⟨⟨1, 1, by go_num, rfl, by omega, hk1', hk2', hide (HB.out.trans (ab0))⟩, by simp [intOf]⟩)
  ·obtain rfl : z = 1 := by omega
   have hz0 : w.heap.size < wr.heap.size := by omega
   have hz1 : w.heap.size + 1 < wr.heap.size := by omega
   have hz2 : w.heap.size + 1 + 1 < wr.heap.size := by omega
   have c0 := hT.s.at (j := 8) rfl
   have c1 := hT.s.at (j := 9) rfl
   have c2 := hT.s.at (j := 10) rfl
   have c3 := hT.s.at (j := 11) rfl
   have c4 := hT.s.at (j := 12) rfl
   have c5 := hT.s.at (j := 13) rfl
   have c6 := hT.s.at (j := 14) rfl
   have c7 := hT.s.at (j := 15) rfl
   clear hz hk hT
   by_cases h0 : y.o = 0
   ·have hrt : r = true := by rw [Hr.out, h0]; simp
    subst hrt
    clear Hr
    rw [h0] at c0
    go_wp2_with fail
    all_goals go_ret
    all_goals exact ⟨rfl, ab0⟩
   have b0 : (y.o == 0) = false := by simpa using h0
   clear h0
   by_cases h8 : y.o = 8
   ·have hrt : r = true := by rw [Hr.out, h8]; simp
    subst hrt
    clear Hr
    rw [h8] at c0
    go_wp2_with fail
    all_goals go_ret
    all_goals exact ⟨rfl, ab0⟩
   have b8 : (y.o == 8) = false := by simpa using h8
   clear h8
   have hk1' : Hid (1 ≤ 2 → (x.o == 0) = false ∧ (x.o == 8) = false) := hide (fun _ => Hk1.out oM)
   have hk2' : Hid (2 ≤ 2 → (y.o == 0) = false ∧ (y.o == 8) = false) := hide (fun _ => ⟨b0, b8⟩)
   have HBw := hide hBw
   clear Hk1 Hk2 hBw
   go_wp2_with fail
   all_goals first
    | exact ⟨⟨2, 2, by go_num, rfl, by omega, hk1', hk2', hide (HB.out.trans (ab0))⟩, by simp [intOf]⟩
    | ((repeat apply Exists.intro); exact ⟨⟨2, 2, by go_num, rfl, by omega, hk1', hk2', hide (HB.out.trans (ab0))⟩, by simp [intOf]⟩)
  ·obtain rfl : z = 2 := by omega
   obtain ⟨b1, b2⟩ := Hk1.out oM
   obtain ⟨b3, b4⟩ := Hk2.out oM
   rw [b1, b2, b3, b4] at Hr
   have hz0 : w.heap.size < wr.heap.size := by omega
   have hz1 : w.heap.size + 1 < wr.heap.size := by omega
   have hz2 : w.heap.size + 1 + 1 < wr.heap.size := by omega
   have c0 := hT.bx.at (j := 0) rfl
   have d0 := hT.yb.at (j := 0) rfl
   have c1 := hT.bx.at (j := 1) rfl
   have d1 := hT.yb.at (j := 1) rfl
   have c2 := hT.bx.at (j := 2) rfl
   have d2 := hT.yb.at (j := 2) rfl
   have c3 := hT.bx.at (j := 3) rfl
   have d3 := hT.yb.at (j := 3) rfl
   have c4 := hT.bx.at (j := 4) rfl
   have d4 := hT.yb.at (j := 4) rfl
   have c5 := hT.bx.at (j := 5) rfl
   have d5 := hT.yb.at (j := 5) rfl
   have c6 := hT.bx.at (j := 6) rfl
   have d6 := hT.yb.at (j := 6) rfl
   have c7 := hT.bx.at (j := 7) rfl
   have d7 := hT.yb.at (j := 7) rfl
   clear hz hk Hk1 Hk2 b1 b2 b3 b4 hT
   cases wx
   all_goals cases wy
   all_goals cases rx
   all_goals cases ry
   all_goals go_wp2_with (first
    | (go_at_call 49; with_reducible refine (Hcx.out _).mono ?_; rintro e w3 ⟨rfl, hb3⟩; obtain ⟨hcc3, hff3, hs3⟩ := bC hb3; (try simp at hs3); have hz30 : w.heap.size < w3.heap.size := oM; have hz31 : w.heap.size + 1 < w3.heap.size := oM)
    | (go_at_call 49; with_reducible refine (Hcy.out _).mono ?_; rintro e w4 ⟨rfl, hb4⟩; obtain ⟨hcc4, hff4, hs4⟩ := bC hb4; (try simp at hs4); have hz40 : w.heap.size < w4.heap.size := oM; have hz41 : w.heap.size + 1 < w4.heap.size := oM)
    | (go_at_call 50; with_reducible refine (Hrx.out _).mono ?_; rintro e w5 ⟨rfl, hb5⟩; obtain ⟨hcc5, hff5, hs5⟩ := bC hb5; (try simp at hs5); have hz50 : w.heap.size < w5.heap.size := oM; have hz51 : w.heap.size + 1 < w5.heap.size := oM)
    | (go_at_call 50; with_reducible refine (Hry.out _).mono ?_; rintro e w6 ⟨rfl, hb6⟩; obtain ⟨hcc6, hff6, hs6⟩ := bC hb6; (try simp at hs6); have hz60 : w.heap.size < w6.heap.size := oM; have hz61 : w.heap.size + 1 < w6.heap.size := oM))
   all_goals go_ret
   all_goals exact ⟨by rw [Hr.out]; rfl, ab0⟩
inductive Eff where
 | still : Eff
 | seen : (Int → Int) → Eff
 | wrote : Nat → Msg → (Int → Int) → W3 → Eff
 | flush : Int → Int → Eff
 | sync : (Int → Int) → Eff
def Eff.on (t : Nat) (e : Eff) (q : MW) : MW := match e with
 | .still => q
 | .seen f => ⟨q.hs, q.vs.set t f, q.logs, q.ak⟩
 | .wrote k m f x => ⟨q.hs.modify k (fun l => l ++ [m]), q.vs.set t f, q.logs.modify (k / 8) (fun g => (g.1, g.2 ++ [((k : Int), x)])), q.ak⟩
 | .flush n v => ⟨q.hs, q.vs, q.logs, askP q.ak t n v⟩
 | .sync g => ⟨q.hs, q.vs, syncQ g q.logs, askZ q.ak t⟩
def effL (L : Nat) (l : List Msg) (f : Int → Int) (nl : Nat) (g : Int → Int) (t : Nat) (a : ActV) (c : Int) : Eff × W3 × Bool :=
 let k := a.at_.toNat
 let n := l.length - 1
 let i := (chooseL l.length (f k) c).toNat
 if goodB L a.op a.at_ = false then (.still, ⟨0, 0, 0⟩, false)
 else if a.op = 0 then (.still, ⟨0, 0, 0⟩, true)
 else if a.op = 1 then (.seen (withF f k i), (l.getD i msgD).1, true)
 else if a.op = 2 then (.seen (joinF (withF f k i) (l.getD i msgD).2.2), (l.getD i msgD).1, true)
 else if a.op = 5 then (.seen (joinF (withF f k n) (l.getD n msgD).2.2), (l.getD n msgD).1, true)
 else if a.op = 3 then (.wrote k (a.new, (t : Int) + 1, withF (fun _ => 0) k l.length) (withF f k l.length) a.new, ⟨0, 0, 0⟩, true)
 else if a.op = 4 then (.wrote k (a.new, (t : Int) + 1, withF f k l.length) (withF f k l.length) a.new, ⟨0, 0, 0⟩, true)
 else if a.op = 6 then
  if eq3 (l.getD n msgD).1 a.old then (.wrote k (a.new, (t : Int) + 1, withF (joinF (withF f k n) (l.getD n msgD).2.2) k (n + 1 : Nat)) (withF (joinF (withF f k n) (l.getD n msgD).2.2) k (n + 1 : Nat)) a.new, (l.getD n msgD).1, true)
  else (.seen (joinF (withF f k n) (l.getD n msgD).2.2), (l.getD n msgD).1, false)
 else if a.op = 7 then (.flush ((k : Int) / 8) nl, ⟨0, 0, 0⟩, true)
 else (.sync g, ⟨0, 0, 0⟩, true)
def effQ (q : MW) (t : Nat) (a : ActV) (c : Int) : Eff × W3 × Bool := effL q.hs.length (q.hs.getD a.at_.toNat []) (q.vs.getD t (fun _ => 0)) (q.logs.getD (a.at_.toNat / 8) (0, [])).2.length (q.ak t) t a c
theorem set_getD {α : Type} (l : List α) (k : Nat) (d : α) (g : α → α) : l.set k (g (l.getD k d)) = l.modify k g := by
 refine List.ext_getElem? (fun j => ?_)
 by_cases e : k = j
 ·subst e
  rw [mod_at, List.getD_eq_getElem?_getD]
  by_cases hk : k < l.length
  ·rw [List.getElem?_set_self hk, List.getElem?_eq_getElem hk]
   rfl
  ·rw [List.getElem?_eq_none_iff.2 (by rw [List.length_set]; omega), List.getElem?_eq_none_iff.2 oM]
   rfl
 ·rw [mod_ne _ e, List.getElem?_set_ne e]
theorem wrote_on (q : MW) (t k : Nat) (f fm : Int → Int) (x : W3) : q.wrote t k (q.hs.getD k []) f fm x (q.logs.getD (k / 8) (0, [])) = (Eff.wrote k (x, (t : Int) + 1, fm) f x).on t q := by
 unfold MW.wrote Eff.on
 simp only
 rw [set_getD q.hs k [] (fun l => l ++ [(x, (t : Int) + 1, fm)]), set_getD q.logs (k / 8) (0, []) (fun g => (g.1, g.2 ++ [((k : Int), x)]))]
theorem doq_eff (q : MW) (t : Nat) (a : ActV) (c : Int) : q.doq t a c = ((effQ q t a c).1.on t q, (effQ q t a c).2) := by
 unfold MW.doq effQ effL
 simp only
 by_cases hg : goodB q.hs.length a.op a.at_ = false
 ·simp only [if_pos hg]; rfl
 simp only [if_neg hg]
 by_cases h0 : a.op = 0
 ·simp only [if_pos h0]; rfl
 simp only [if_neg h0]
 by_cases h1 : a.op = 1
 ·simp only [if_pos h1]; rfl
 simp only [if_neg h1]
 by_cases h2 : a.op = 2
 ·simp only [if_pos h2]; rfl
 simp only [if_neg h2]
 by_cases h5 : a.op = 5
 ·simp only [if_pos h5]; rfl
 simp only [if_neg h5]
 by_cases h3 : a.op = 3
 ·simp only [if_pos h3, wrote_on]
 simp only [if_neg h3]
 by_cases h4 : a.op = 4
 ·simp only [if_pos h4, wrote_on]
 simp only [if_neg h4]
 by_cases h6 : a.op = 6
 ·simp only [if_pos h6]
  split
  ·simp only [wrote_on]
  ·rfl
 simp only [if_neg h6]
 by_cases h7 : a.op = 7
 ·simp only [if_pos h7]; rfl
 simp only [if_neg h7]
 rfl
theorem set_comm' {α : Type} {l : List α} {i j : Nat} {a b : α} (h : i ≠ j) : (l.set i a).set j b = (l.set j b).set i a := by
 refine List.ext_getElem? (fun n => ?_)
 simp only [List.getElem?_set, List.length_set]
 by_cases h1 : i = n <;> by_cases h2 : j = n <;> simp [h1, h2]
 omega
theorem mod_comm {α : Type} {l : List α} {i j : Nat} {f g : α → α} (h : i ≠ j) : (l.modify i f).modify j g = (l.modify j g).modify i f := by
 refine List.ext_getElem? (fun n => ?_)
 by_cases h1 : i = n
 ·subst h1
  rw [mod_ne _ (Ne.symm h), mod_at, mod_at, mod_ne _ (Ne.symm h)]
 ·by_cases h2 : j = n
  ·subst h2
   rw [mod_at, mod_ne _ h, mod_ne _ h, mod_at]
  ·rw [mod_ne _ h2, mod_ne _ h1, mod_ne _ h1, mod_ne _ h2]
theorem syncQ_at (g : Int → Int) (logs : List Lg) (n : Nat) : (syncQ g logs)[n]? = (logs[n]?).map (fun x => (max x.1 (g n), x.2)) := by
 unfold syncQ
 rw [List.getElem?_mapIdx]
theorem syncQ_mod (g : Int → Int) (logs : List Lg) (k : Nat) (y : List (Int × W3)) : syncQ g (logs.modify k (fun x => (x.1, x.2 ++ y))) = (syncQ g logs).modify k (fun x => (x.1, x.2 ++ y)) := by
 refine List.ext_getElem? (fun n => ?_)
 rw [syncQ_at]
 by_cases h : k = n
 ·subst h
  rw [mod_at, mod_at, syncQ_at, Option.map_map, Option.map_map]
  rfl
 ·rw [mod_ne _ h, mod_ne _ h, syncQ_at]
theorem syncQ_comm (g g' : Int → Int) (logs : List Lg) : syncQ g (syncQ g' logs) = syncQ g' (syncQ g logs) := by
 refine List.ext_getElem? (fun n => ?_)
 rw [syncQ_at, syncQ_at, syncQ_at, syncQ_at, Option.map_map, Option.map_map]
 congr 1
 funext x
 simp only [Function.comp_apply]
 congr 1
 omega
theorem askP_comm {G : Nat → Int → Int} {t u : Nat} {n v n' v' : Int} (h : t ≠ u) : askP (askP G u n' v') t n v = askP (askP G t n v) u n' v' := by
 funext t'
 unfold askP
 by_cases h1 : t' = t
 ·subst h1
  simp [h]
 ·by_cases h2 : t' = u
  ·subst h2
   simp [h1]
  ·simp [h1, h2]
theorem askPZ_comm {G : Nat → Int → Int} {t u : Nat} {n v : Int} (h : t ≠ u) : askP (askZ G u) t n v = askZ (askP G t n v) u := by
 funext t'
 unfold askP askZ
 by_cases h1 : t' = t
 ·subst h1
  simp [h]
 ·by_cases h2 : t' = u
  ·subst h2
   simp [h1]
  ·simp [h1, h2]
theorem askZ_comm {G : Nat → Int → Int} {t u : Nat} : askZ (askZ G u) t = askZ (askZ G t) u := by
 funext t'
 unfold askZ
 by_cases h1 : t' = t <;> by_cases h2 : t' = u <;> simp [h1, h2]
theorem on_comm {t u : Nat} (h : t ≠ u) (e e' : Eff) (q : MW) (hk : ∀ k m f x k' m' f' x', e = .wrote k m f x → e' = .wrote k' m' f' x' → k / 8 ≠ k' / 8) : e.on t (e'.on u q) = e'.on u (e.on t q) := by
 cases e with
 | still => rfl
 | seen f =>
  cases e' with
  | still => rfl
  | seen f' => simp only [Eff.on, set_comm' (Ne.symm h)]
  | wrote k' m' f' x' => simp only [Eff.on, set_comm' (Ne.symm h)]
  | flush n v => rfl
  | sync g => rfl
 | wrote k m f x =>
  cases e' with
  | still => rfl
  | seen f' => simp only [Eff.on, set_comm' (Ne.symm h)]
  | wrote k' m' f' x' =>
   have h8 := hk _ _ _ _ _ _ _ _ rfl rfl
   have h9 : k ≠ k' := fun e => h8 (by rw [e])
   simp only [Eff.on, set_comm' (Ne.symm h)]
   rw [mod_comm (Ne.symm h9), mod_comm (Ne.symm h8)]
  | flush n v => rfl
  | sync g => simp only [Eff.on, syncQ_mod]
 | flush n v =>
  cases e' with
  | still => rfl
  | seen f' => rfl
  | wrote k' m' f' x' => rfl
  | flush n' v' => simp only [Eff.on, askP_comm h]
  | sync g => simp only [Eff.on, askPZ_comm h]
 | sync g =>
  cases e' with
  | still => rfl
  | seen f' => rfl
  | wrote k' m' f' x' => simp only [Eff.on, syncQ_mod]
  | flush n' v' => simp only [Eff.on, askPZ_comm (Ne.symm h)]
  | sync g' => simp only [Eff.on, askZ_comm (t := t), syncQ_comm g]
theorem effL_same {L : Nat} {l l' : List Msg} {f g : Int → Int} {nl nl' t : Nat} {a : ActV} {c : Int} (h : goodB L a.op a.at_ = true → ((rdB a.op || wrB a.op) = true → l = l') ∧ (a.op = 7 → nl = nl')) : effL L l f nl g t a c = effL L l' f nl' g t a c := by
 cases hg : goodB L a.op a.at_ with
 | false => simp only [effL, if_pos hg]
 | true =>
  obtain ⟨h1, h2⟩ := h hg
  by_cases hr : (rdB a.op || wrB a.op) = true
  ·have hn : a.op ≠ 7 := by
    intro e
    rw [e] at hr
    exact absurd hr dM
   obtain rfl := h1 hr
   simp only [effL, if_neg hn]
  ·unfold rdB wrB at hr
   simp only [Bool.or_eq_true, beq_iff_eq, not_or] at hr
   obtain ⟨⟨⟨a1, a2⟩, a3⟩, ⟨a4, a5⟩, a6⟩ := hr
   by_cases hn : a.op = 7
   ·obtain rfl := h2 hn
    simp only [effL, if_neg a1, if_neg a2, if_neg a3, if_neg a4, if_neg a5, if_neg a6]
   ·simp only [effL, if_neg a1, if_neg a2, if_neg a3, if_neg a4, if_neg a5, if_neg a6, if_neg hn]
theorem effL_wrote {L : Nat} {l : List Msg} {f g : Int → Int} {nl t : Nat} {a : ActV} {c : Int} {k : Nat} {m : Msg} {f' : Int → Int} {x : W3} (h : (effL L l f nl g t a c).1 = .wrote k m f' x) : goodB L a.op a.at_ = true ∧ wrB a.op = true ∧ k = a.at_.toNat := by
 unfold effL at h
 simp only at h
 by_cases hg : goodB L a.op a.at_ = false
 ·rw [if_pos hg] at h; cases h
 rw [if_neg hg] at h
 by_cases h0 : a.op = 0
 ·rw [if_pos h0] at h; cases h
 rw [if_neg h0] at h
 by_cases h1 : a.op = 1
 ·rw [if_pos h1] at h; cases h
 rw [if_neg h1] at h
 by_cases h2 : a.op = 2
 ·rw [if_pos h2] at h; cases h
 rw [if_neg h2] at h
 by_cases h5 : a.op = 5
 ·rw [if_pos h5] at h; cases h
 rw [if_neg h5] at h
 have hg' : goodB L a.op a.at_ = true := by simpa using hg
 by_cases h3 : a.op = 3
 ·rw [if_pos h3] at h
  injection h with e1
  exact ⟨hg', by rw [h3]; rfl, e1.symm⟩
 rw [if_neg h3] at h
 by_cases h4 : a.op = 4
 ·rw [if_pos h4] at h
  injection h with e1
  exact ⟨hg', by rw [h4]; rfl, e1.symm⟩
 rw [if_neg h4] at h
 by_cases h6 : a.op = 6
 ·rw [if_pos h6] at h
  split at h
  ·injection h with e1
   exact ⟨hg', by rw [h6]; rfl, e1.symm⟩
  ·cases h
 rw [if_neg h6] at h
 by_cases h7 : a.op = 7
 ·rw [if_pos h7] at h; cases h
 rw [if_neg h7] at h
 cases h
theorem getD_mod {α : Type} (l : List α) (k j : Nat) (d : α) (g : α → α) (h : k ≠ j) : (l.modify k g).getD j d = l.getD j d := by
 rw [List.getD_eq_getElem?_getD, mod_ne _ h, ← List.getD_eq_getElem?_getD]
theorem getD_set {α : Type} (l : List α) (k j : Nat) (d a : α) (h : k ≠ j) : (l.set k a).getD j d = l.getD j d := by
 rw [List.getD_eq_getElem?_getD, List.getElem?_set_ne h, ← List.getD_eq_getElem?_getD]
theorem eff_len (e : Eff) (t : Nat) (q : MW) : (e.on t q).hs.length = q.hs.length := by
 cases e with
 | wrote k m f x => exact List.length_modify ..
 | _ => rfl
theorem effQ_same {t u : Nat} (h : t ≠ u) (q : MW) (e : Eff) (a : ActV) (c : Int) (hk : ∀ k m f x, e = .wrote k m f x → goodB q.hs.length a.op a.at_ = true → ((rdB a.op || wrB a.op) = true → k ≠ a.at_.toNat) ∧ (a.op = 7 → k / 8 ≠ a.at_.toNat / 8)) : effQ (e.on u q) t a c = effQ q t a c := by
 unfold effQ
 rw [eff_len]
 cases e with
 | still => rfl
 | seen f => simp only [Eff.on]; rw [getD_set _ _ _ _ _ (Ne.symm h)]
 | wrote k m f x =>
  simp only [Eff.on]
  rw [getD_set _ _ _ _ _ (Ne.symm h)]
  refine effL_same (fun hg => ?_)
  obtain ⟨h1, h2⟩ := hk _ _ _ _ rfl hg
  exact ⟨fun hr => getD_mod _ _ _ _ _ (h1 hr), fun h7 => by rw [getD_mod _ _ _ _ _ (h2 h7)]⟩
 | flush n v =>
  simp only [Eff.on]
  rw [show askP q.ak u n v t = q.ak t by unfold askP; rw [if_neg h]]
 | sync g =>
  simp only [Eff.on]
  rw [show askZ q.ak u t = q.ak t by unfold askZ; rw [if_neg h]]
  refine effL_same (fun hg => ⟨fun _ => rfl, fun _ => ?_⟩)
  rw [List.getD_eq_getElem?_getD, syncQ_at, List.getD_eq_getElem?_getD]
  cases q.logs[a.at_.toNat / 8]? <;> rfl
theorem indT_comm (x y : AS) : indT x y = indT y x := by
 unfold indT
 cases skB x.o <;> cases skB y.o <;> cases wrB x.o <;> cases wrB y.o <;> cases rdB x.o <;> cases rdB y.o <;> simp [bne_comm]
theorem good_at {L : Nat} {a : ActV} (h : goodB L a.op a.at_ = true) (h0 : a.op ≠ 0) (h8 : a.op ≠ 8) : 0 ≤ a.at_ ∧ a.at_ < (L : Int) := by
 obtain ⟨_, _, h3⟩ := goodB_iff.1 h
 omega
theorem ind_apart {L : Nat} {x y : AS} (hi : indT x y = true) (hx : goodB L x.o x.l = true) (hw : wrB x.o = true) (hy : goodB L y.o y.l = true) : ((rdB y.o || wrB y.o) = true → x.l.toNat ≠ y.l.toNat) ∧ ((wrB y.o = true ∨ y.o = 7) → x.l.toNat / 8 ≠ y.l.toNat / 8) := by
 have hxo : x.o ≠ 0 ∧ x.o ≠ 8 ∧ x.o ≠ 1 ∧ x.o ≠ 2 ∧ x.o ≠ 5 := by
  unfold wrB at hw
  simp only [Bool.or_eq_true, beq_iff_eq] at hw
  omega
 have gx := good_at (a := actP x) hx hxo.1 hxo.2.1
 have gx1 : 0 ≤ x.l := gx.1
 have sx : skB x.o = false := by unfold skB; simp; omega
 have rx : rdB x.o = false := by unfold rdB; simp; omega
 unfold indT at hi
 rw [sx, hw, rx] at hi
 by_cases hsk : skB y.o = true
 ·have h0 : y.o = 0 ∨ y.o = 8 := by
   unfold skB at hsk
   simpa using hsk
  refine ⟨fun hr => ?_, fun hr => ?_⟩
  ·exfalso
   unfold rdB wrB at hr
   rcases h0 with h0 | h0 <;> rw [h0] at hr <;> exact absurd hr dM
  ·exfalso
   unfold wrB at hr
   rcases h0 with h0 | h0 <;> rw [h0] at hr <;> exact absurd hr dM
 ·have sy : skB y.o = false := by simpa using hsk
  have hy0 : y.o ≠ 0 ∧ y.o ≠ 8 := by
   unfold skB at sy
   simp at sy
   exact sy
  have gy := good_at (a := actP y) hy hy0.1 hy0.2
  have gy1 : 0 ≤ y.l := gy.1
  rw [sy] at hi
  have ed : ∀ z : Int, 0 ≤ z → z.tdiv 8 = z / 8 := fun z hz => Int.tdiv_eq_ediv_of_nonneg hz
  cases hrd : rdB y.o with
  | true =>
   rw [hrd] at hi
   have hne : x.l ≠ y.l := by simpa using hi
   have hwy : wrB y.o = false := by
    unfold rdB at hrd
    unfold wrB
    simp only [Bool.or_eq_true, beq_iff_eq] at hrd
    rcases hrd with (h | h) | h <;> rw [h] <;> decide
   refine ⟨fun _ => by omega, fun h => ?_⟩
   rcases h with h | h
   ·rw [hwy] at h; cases h
   ·rw [h] at hrd
    exact absurd hrd dM
  | false =>
   rw [hrd] at hi
   have hne : x.l.tdiv 8 ≠ y.l.tdiv 8 := by simpa using hi
   rw [ed _ gx1, ed _ gy1] at hne
   exact ⟨fun _ => by omega, fun _ => by omega⟩
theorem ind_doq (q : MW) {t u : Nat} (h : t ≠ u) (x y : AS) (c d : Int) (hi : indT x y = true) :
  ((q.doq t (actP x) c).1.doq u (actP y) d).2 = (q.doq u (actP y) d).2 ∧ ((q.doq u (actP y) d).1.doq t (actP x) c).2 = (q.doq t (actP x) c).2 ∧ ((q.doq t (actP x) c).1.doq u (actP y) d).1 = ((q.doq u (actP y) d).1.doq t (actP x) c).1 := by
 have e1 : effQ ((effQ q t (actP x) c).1.on t q) u (actP y) d = effQ q u (actP y) d := by
  refine effQ_same (Ne.symm h) q _ (actP y) d (fun k m f z hk hg => ?_)
  obtain ⟨g1, g2, rfl⟩ := effL_wrote hk
  obtain ⟨r1, r2⟩ := ind_apart hi g1 g2 hg
  exact ⟨r1, fun h7 => r2 (.inr h7)⟩
 have e2 : effQ ((effQ q u (actP y) d).1.on u q) t (actP x) c = effQ q t (actP x) c := by
  refine effQ_same h q _ (actP x) c (fun k m f z hk hg => ?_)
  obtain ⟨g1, g2, rfl⟩ := effL_wrote hk
  obtain ⟨r1, r2⟩ := ind_apart (by rw [indT_comm]; exact hi) g1 g2 hg
  exact ⟨r1, fun h7 => r2 (.inr h7)⟩
 simp only [doq_eff]
 rw [e1, e2]
 refine ⟨rfl, rfl, ?_⟩
 exact on_comm (Ne.symm h) _ _ q (fun k m f z k' m' f' z' hk hk' => by
  obtain ⟨g1, g2, rfl⟩ := effL_wrote hk
  obtain ⟨g3, g4, rfl⟩ := effL_wrote hk'
  exact (ind_apart (by rw [indT_comm]; exact hi) g1 g2 g3).2 (.inl g4))
theorem nx_act {P : PW} {t u : Nat} (h : t ≠ u) (a : AS) (c : Int) : (P.nx t a c).act u = P.act u := by
 unfold PW.act PW.nx
 simp only
 rw [mod_ne _ h]
theorem nx_comm (P : PW) {t u : Nat} (h : t ≠ u) (x y : AS) (c d : Int) (hi : indT x y = true) : (P.nx t x c).nx u y d = (P.nx u y d).nx t x c := by
 obtain ⟨h1, h2, h3⟩ := ind_doq P.q h x y c d hi
 unfold PW.nx
 simp only
 rw [h3, mod_comm h, mod_comm h]
 simp only [gotP, h1, h2]
structure Held (B0 L n : Nat) (W : World) (V : WorldV) (P : PW) : Prop where
 r : V.R W
 s : Shows V P
 i : P.In L 3 n
 rows : RowsB B0 W P
 t : Tab W
 b : B0 ≤ W.heap.size
 g : 0 < B0
 l : 0 < L ∧ L ≤ 12
 al : ∀ r ∈ P.rows, ∀ a ∈ r.l, inI a.l
section
variable {B0 L n : Nat} {W : World} {V : WorldV} {P : PW}
theorem Held.below (h : Held B0 L n W V P) {W' : World} (hb : Below W.heap.size W W') : Held B0 L n W' V P := ⟨h.r.below hb, h.s, h.i, fun r hr => (h.rows r hr).below (hb.mono h.b), h.t.below (hb.mono h.b) h.g, Nat.le_trans h.b hb.size, h.g, h.l, h.al⟩
theorem PW.In.up {L th n : Nat} {P : PW} (h : P.In L th n) : P.In L th (n + 1) := ⟨h.q.up, h.rg, h.rs, h.rt, fun l hl => ⟨by have := (h.gl l hl).1; omega, (h.gl l hl).2⟩, h.rows⟩
theorem Held.up (h : Held B0 L n W V P) : Held B0 L (n + 1) W V P := ⟨h.r, h.s, h.i.up, h.rows, h.t, h.b, h.g, h.l, h.al⟩
theorem Held.fit (h : Held B0 L n W V P) (hn : n ≤ 99) : P.Fit := h.i.fits (by have := h.l; omega) oM oM
theorem Held.lens (h : Held B0 L n W V P) : V.ts.length = 3 ∧ V.ss.length = 3 ∧ V.M.mem.vs.length = 3 ∧ V.M.mem.hs.length = L ∧ P.rows.length = 3 ∧ P.ss.length = 3 := by
 have e1 := h.i.rt
 have e2 := h.i.rs
 have e3 := h.s.2.2.2.1
 have e4 := map_len h.s.1.1
 have e5 := map_len h.s.1.2.1
 have e6 := h.i.q.hs
 have e7 := h.i.q.vs
 have e8 := congrArg List.length h.s.2.2.1
 omega
theorem Held.task (h : Held B0 L n W V P) {t : Nat} (ht : t < 3) : ∃ (k : TaskV) (r : RowP), V.ts[t]? = some k ∧ P.rows[t]? = some r ∧ RT r.A r.cap r.l r.i k ∧ k ∈ V.ts := by
 obtain ⟨e1, e2, e3, e4, e5, e6⟩ := h.lens
 have h1 := List.getElem?_eq_getElem (l := V.ts) (i := t) oM
 have h2 := List.getElem?_eq_getElem (l := P.rows) (i := t) oM
 exact ⟨_, _, h1, h2, h.s.2.2.2.2.2 t _ _ h1 h2, List.mem_of_getElem? h1⟩
theorem Held.ss (h : Held B0 L n W V P) (hns : ∀ b ∈ P.ss, b = false) {t : Nat} (ht : t < 3) : V.ss[t]? = some false ∧ P.ss[t]? = some false := by
 obtain ⟨e1, e2, e3, e4, e5, e6⟩ := h.lens
 have hps : P.ss[t]? = some false := by rw [List.getElem?_eq_getElem oM, hns _ (List.getElem_mem oM)]
 exact ⟨by rw [h.s.2.2.1]; exact hps, hps⟩
theorem act_eq {t : Nat} (hps : P.ss[t]? = some false) {r : RowP} (hr : P.rows[t]? = some r) : P.act t = r.l[r.i]? := by
 unfold PW.act
 rw [getD_at hps, hr]
 rfl
theorem rows_nxB {t : Nat} {a : AS} {c : Int} (h : RowsB B0 W P) : RowsB B0 W (P.nx t a c) := by
 intro r hr
 obtain ⟨j, hj⟩ := List.mem_iff_getElem?.1 hr
 have hj' : (P.rows.modify t RowP.nx)[j]? = some r := hj
 by_cases e : t = j
 ·subst e
  rw [mod_at] at hj'
  obtain ⟨r0, hr0, rfl⟩ := Option.map_eq_some_iff.1 hj'
  exact h r0 (List.mem_of_getElem? hr0)
 ·rw [mod_ne _ e] at hj'
  exact h r (List.mem_of_getElem? hj')
theorem nx_al {t : Nat} {a : AS} {c : Int} (h : ∀ r ∈ P.rows, ∀ a ∈ r.l, inI a.l) : ∀ r ∈ (P.nx t a c).rows, ∀ a ∈ r.l, inI a.l := by
 intro r hr
 obtain ⟨j, hj⟩ := List.mem_iff_getElem?.1 hr
 have hj' : (P.rows.modify t RowP.nx)[j]? = some r := hj
 by_cases e : t = j
 ·subst e
  rw [mod_at] at hj'
  obtain ⟨r0, hr0, rfl⟩ := Option.map_eq_some_iff.1 hj'
  exact h r0 (List.mem_of_getElem? hr0)
 ·rw [mod_ne _ e] at hj'
  exact h r (List.mem_of_getElem? hj')
theorem held_step (h : Held B0 L n W V P) (hn : n ≤ 99) {t : Nat} {a : AS} (ha : P.act t = some a) (c : Int) (hcw : (Lit.int .i64 c).wf = true) :
  Calls Tryz.prog 13 #[(woV V), .agg #[.int .i64 0, .int .i64 ((t : Int) + 1), .int .i64 c]] W fun e w' => ∃ V2 : WorldV, e = .returned (.tuple #[(woV V2), .bool true]) ∧ Held B0 L (n + 1) w' V2 (P.nx t a c) ∧ (∀ C, C < W.heap.size → V.off C → V2.off C) ∧ Below W.heap.size W w' := by
 have hf := h.fit hn
 refine (step_row V P W t c a h.r h.s (fun r hr => ⟨(h.rows r hr).more h.b, by have := h.i.rows r hr; omega⟩) ha hf.q.can hf.rt (fun gl hg => (hf.gl gl hg).1) hcw).mono ?_
 rintro e w' ⟨V2, rfl, hS, hR, hoff, hb⟩
 exact ⟨V2, rfl, ⟨hR, hS, nx_in h.i ha, rows_nxB (fun r hr => (h.rows r hr).below (hb.mono h.b)), h.t.below (hb.mono h.b) h.g, Nat.le_trans h.b hb.size, h.g, h.l, nx_al h.al⟩, hoff, hb⟩
theorem held_any (h : Held B0 L n W V P) (hn : n ≤ 99) (hns : ∀ b ∈ P.ss, b = false) (th c : Int) (hcw : (Lit.int .i64 c).wf = true) :
  Calls Tryz.prog 13 #[(woV V), .agg #[.int .i64 0, .int .i64 th, .int .i64 c]] W fun e w' => ∃ (V2 : WorldV) (P2 : PW) (ok : Bool), e = .returned (.tuple #[(woV V2), .bool ok]) ∧ Held B0 L (n + 1) w' V2 P2 ∧ (∀ b ∈ P2.ss, b = false) ∧ (∀ C, C < W.heap.size → V.off C → V2.off C) ∧ Below W.heap.size W w' := by
 obtain ⟨e1, e2, e3, e4, e5, e6⟩ := h.lens
 by_cases ht : 1 ≤ th ∧ th ≤ 3
 ·obtain ⟨t, rfl⟩ : ∃ t : Nat, th = (t : Int) + 1 := ⟨(th - 1).toNat, by omega⟩
  obtain ⟨k, r, hk, hr, hrt, _⟩ := h.task (t := t) oM
  obtain ⟨hs, hps⟩ := h.ss hns (t := t) oM
  cases ha : P.act t with
  | some a =>
   refine (held_step h hn ha c hcw).mono ?_
   rintro e w' ⟨V2, rfl, hH, hoff, hb⟩
   exact ⟨V2, _, true, rfl, hH, hns, hoff, hb⟩
  | none =>
   rw [act_eq hps hr] at ha
   have hd : (rowS r.A r.cap r.l r.i).2.2 = true := by unfold rowS; rw [ha]
   refine (world_Step_still V 0 ((t : Int) + 1) c W dM h.r oM (fun W2 hR2 => world_takes V t k true W2 hR2 hk oM hs (fun W3 => by have q := rt_done hrt W3; rwa [hd] at q))).mono ?_
   rintro e w' ⟨rfl, hR, hb⟩
   exact ⟨V, P, false, rfl, (h.below hb).up, hns, fun C _ h => h, hb⟩
 ·refine (world_Step_still V 0 th c W dM h.r oM (fun W2 hR2 => world_takes_far V th W2 oM)).mono ?_
  rintro e w' ⟨rfl, hR, hb⟩
  exact ⟨V, P, false, rfl, (h.below hb).up, hns, fun C _ h => h, hb⟩
theorem held_key (h : Held B0 L n W V P) (hn : n ≤ 99) : Calls Tryz.prog 15 #[(woV V)] W (Ret (.string ⟨P.keyP.toArray⟩) W) := by
 have hf := h.fit hn
 have q := ex_key V W h.r h.t (Nat.lt_of_lt_of_le h.g h.b) (shows_okK h.r h.s hf)
 rw [shows_keyT h.s hf.rg] at q
 exact q
theorem held_out (h : Held B0 L n W V P) (hn : n ≤ 99) : Calls Tryz.prog 14 #[(woV V)] W (Ret (.string ⟨P.outP.toArray⟩) W) := by
 have hf := h.fit hn
 obtain ⟨e1, e2, e3, e4, e5, e6⟩ := h.lens
 have hl := h.l
 have hw := words_okW hf.q
 have hwl : P.q.words.length = V.M.mem.hs.length := by
  have := map_len h.s.1.1
  simp only [MW.words, List.length_map]
  omega
 have q := ex_outcome textW W3.okW V P.q.words W h.r (fun W2 hW => mach_words V.M P.q.words W2 (h.r.below hW).1.1 hwl oM (fun k x hx W3 hR3 => by
   obtain ⟨hi, j, g, g1, g2, g3, g4, rfl, _⟩ := words_at h.s.1 hf.q hx
   exact mach_word V.M k j hi g W3 hR3 g1 g2 g3 g4)) oM oM
  (fun x hx W2 hW => text_any x W2 hx (h.t.below hW (Nat.lt_of_lt_of_le h.g h.b)) (Nat.lt_of_lt_of_le (Nat.lt_of_lt_of_le h.g h.b) hW.size)) hw
  (fun k hk g hg => (hf.gl k.l (by rw [← h.s.2.1]; exact List.mem_map_of_mem hk)).2 g hg) oM
  (fun k hk => by
   have hm : k.l.length = k.m := gots_length (h.r.2.1.2.2.2 k hk).1
   have := (hf.gl k.l (by rw [← h.s.2.1]; exact List.mem_map_of_mem hk)).1
   omega) (by rw [h.s.2.1]; exact hf.ol)
 rw [h.s.2.1] at q
 exact q
theorem held_act (h : Held B0 L n W V P) {t : Nat} {a : AS} {k : TaskV} (ht : t < 3) (hk : V.ts[t]? = some k) (ha : P.act t = some a) (W2 : World) : k.a = a ∧ Calls Tryz.prog 18 #[(tkV k)] W2 (Ret (.tuple #[(acV k.a), .bool true]) W2) := by
 obtain ⟨hps, r, hr, har⟩ := act_some ha
 exact rt_act (h.s.2.2.2.2.2 t k r hk hr) har W2
theorem held_ch (h : Held B0 L n W V P) (hn : n ≤ 99) (hns : ∀ b ∈ P.ss, b = false) {t : Nat} (ht : t < 3) : Calls Tryz.prog 17 #[(woV V), .int .i64 ((t : Int) + 1)] W (Ret (.int .i64 (P.ch t)) W) := by
 obtain ⟨x1, x2, x3, x4, x5, x6⟩ := h.lens
 obtain ⟨k, r, hk, hr, hrt, _⟩ := h.task ht
 obtain ⟨hs, hps⟩ := h.ss hns ht
 have hf := h.fit hn
 have hn' : V.ts.length ≤ 1000 := by omega
 have hae := act_eq hps hr
 cases ha : P.act t with
 | none =>
  rw [ha] at hae
  have hd : (rowS r.A r.cap r.l r.i).2.2 = true := by unfold rowS; rw [← hae]
  have e : P.ch t = 0 := by unfold PW.ch; rw [ha]
  rw [e]
  exact law_ch_done V t k W h.r hk hn' hs (fun W2 => by have q := rt_done hrt W2; rwa [hd] at q)
 | some a =>
  rw [ha] at hae
  have hd : (rowS r.A r.cap r.l r.i).2.2 = false := by unfold rowS; rw [← hae]
  have hdone := fun W2 => (by have q := rt_done hrt W2; rwa [hd] at q : Calls Tryz.prog 41 #[(.agg #[(k).c, (k).nx, .int .i64 ((k).a).o, .int .i64 ((k).a).l, .int .i64 ((k).a).v, .int .u32 ((k).a).r, .int .u32 ((k).a).f, .int .i64 ((k).a).v2, .int .u32 ((k).a).r2, .int .u32 ((k).a).f2, .slice (k).A (k).m (k).cp])] W2 fun e w' => e = .returned (.bool false) ∧ Below W2.heap.size W2 w')
  have hact := fun W2 => (held_act h ht hk ha W2).2
  have hka := (held_act h ht hk ha W).1
  have e : P.ch t = chA P.q t a := by unfold PW.ch; rw [ha]
  rw [e]
  unfold chA
  by_cases h12 : a.o = 1 ∨ a.o = 2
  ·by_cases hin : 0 ≤ a.l ∧ a.l < (P.q.hs.length : Int)
   ·rw [if_pos ⟨h12, hin⟩]
    have m1 := h.s.1.1
    have m2 := h.s.1.2.1
    have l1 := map_len m1
    have l2 := map_len m2
    have hkl : a.l.toNat < P.q.hs.length := by omega
    have hkv : t < P.q.vs.length := by omega
    have g1 := List.getElem?_eq_getElem hkl
    have g2 := List.getElem?_eq_getElem hkv
    obtain ⟨h', hh, e1⟩ := map_at m1 g1
    obtain ⟨v, hv, e2⟩ := map_at m2 g2
    have hvl := hf.q.vl _ (List.getElem_mem hkv)
    have l3 := map_len e1
    have hL := h.l
    obtain ⟨hl0, hl1⟩ := (hf.q.hl _ (List.getElem_mem hkl)).1
    have e3 : ((a.l.toNat : Nat) : Int) = a.l := by omega
    have e4 : (((chN h'.l.length (v.f a.l)).toNat : Nat) : Int) = chN h'.l.length (v.f a.l) := by
     unfold chN
     omega
    rw [getD_at g1, getD_at g2, ← l3, ← e2, e4]
    rcases h12 with h1 | h1
    ·have q := law_ch_load V t k W h.r hk hn' hs hdone hact (by rw [hka]; exact h1) a.l.toNat (by rw [hka]; omega) h' v hh hv oM oM oM (fun z => by rw [e2]; exact (hvl z).2)
     rw [e3] at q
     exact q
    ·have q := law_ch_acq V t k W h.r hk hn' hs hdone hact (by rw [hka]; exact h1) a.l.toNat (by rw [hka]; omega) h' v hh hv oM oM oM (fun z => by rw [e2]; exact (hvl z).2)
     rw [e3] at q
     exact q
   ·rw [if_neg (by rintro ⟨_, h⟩; exact hin h)]
    have m1 := map_len h.s.1.1
    rcases h12 with h1 | h1
    ·exact law_ch_far1 V t k W h.r hk hn' hs hdone hact (by rw [hka]; exact h1) (by rw [hka]; omega)
    ·exact law_ch_far2 V t k W h.r hk hn' hs hdone hact (by rw [hka]; exact h1) (by rw [hka]; omega)
  ·rw [if_neg (by rintro ⟨h, _⟩; exact h12 h)]
   exact law_ch_one V t k W h.r hk hn' hs hdone hact (by rw [hka]; omega) (by rw [hka]; omega)
end
def wol (V : WorldV) : List Value := [.slice ((V).M).mem.pA ((V).M).mem.hs.length ((V).M).mem.pc, .slice ((V).M).mem.vA ((V).M).mem.vs.length ((V).M).mem.vc, .slice ((V).M).ln.fA ((V).M).ln.first.length ((V).M).ln.fc, .slice ((V).M).ln.lA ((V).M).ln.logs.length ((V).M).ln.lc, .map ((V).M).ln.asks, .slice ((V).M).sA ((V).M).steps.length ((V).M).sc, .int .i64 ((V).M).crashes, .slice (V).tA (V).ts.length (V).tc, .slice (V).sA (V).ss.length (V).sc]
theorem box9 {C : Nat} {V : WorldV} {W : World} (h : BoxC C (wol V) W) : W.cell? ⟨C, 0, none⟩ = some (.slice V.M.mem.pA V.M.mem.hs.length V.M.mem.pc) ∧ W.cell? ⟨C, 1, none⟩ = some (.slice V.M.mem.vA V.M.mem.vs.length V.M.mem.vc) ∧ W.cell? ⟨C, 2, none⟩ = some (.slice V.M.ln.fA V.M.ln.first.length V.M.ln.fc) ∧ W.cell? ⟨C, 3, none⟩ = some (.slice V.M.ln.lA V.M.ln.logs.length V.M.ln.lc) ∧ W.cell? ⟨C, 4, none⟩ = some (.map V.M.ln.asks) ∧ W.cell? ⟨C, 5, none⟩ = some (.slice V.M.sA V.M.steps.length V.M.sc) ∧ W.cell? ⟨C, 6, none⟩ = some (.int .i64 V.M.crashes) ∧ W.cell? ⟨C, 7, none⟩ = some (.slice V.tA V.ts.length V.tc) ∧ W.cell? ⟨C, 8, none⟩ = some (.slice V.sA V.ss.length V.sc) ∧ ∀ o, W.frozen? ⟨C, o, none⟩ = false := ⟨h.at (j := 0) rfl, h.at (j := 1) rfl, h.at (j := 2) rfl, h.at (j := 3) rfl, h.at (j := 4) rfl, h.at (j := 5) rfl, h.at (j := 6) rfl, h.at (j := 7) rfl, h.at (j := 8) rfl, h.2.1⟩
structure XS (B0 L n C : Nat) (W : World) (V : WorldV) (P : PW) : Prop where
 h : Held B0 L n W V P
 ns : ∀ b ∈ P.ss, b = false
 x : BoxC C (wol V) W
 off : V.off C
 lt : C < W.heap.size
 b : B0 ≤ C
section
variable {B0 L n C : Nat} {W : World} {V : WorldV} {P : PW}
theorem XS.below (h : XS B0 L n C W V P) {W' : World} (hb : Below W.heap.size W W') : XS B0 L n C W' V P := ⟨h.h.below hb, h.ns, h.x.below hb, h.off, Nat.lt_of_lt_of_le h.lt hb.size, h.b⟩
theorem XS.up (h : XS B0 L n C W V P) : XS B0 L (n + 1) C W V P := ⟨h.h.up, h.ns, h.x, h.off, h.lt, h.b⟩
theorem WorldV.R.fill {B n : Nat} {l : List Value} (h : V.R W) (hoff : V.off B) (hb : BoxE B n W) (hl : l.length ≤ n) (k : Nat) (hk : k + l.length ≤ n) : V.R (setFrom W B k l) :=
 keep_setFrom (P := fun w => V.R w) (fun _ _ x hc h => WorldV.R.set h hoff hc x) l k hk hb h
theorem Held.fill (h : Held B0 L n W V P) (hoff : V.off C) {U : List Value} (hb : BoxE C U.length W) (hC : B0 ≤ C) : Held B0 L n (setFrom W C 0 U) V P := by
 have hB : Below B0 W (setFrom W C 0 U) := below_setFrom hC _ _ (Below.refl _ _)
 exact ⟨h.r.fill hoff hb (Nat.le_refl _) 0 oM, h.s, h.i, fun r hr => (h.rows r hr).below hB, h.t.below hB h.g, by rw [setFrom_size]; exact h.b, h.g, h.l, h.al⟩
theorem XS.fill {V0 : WorldV} (h : Held B0 L n W V P) (hns : ∀ b ∈ P.ss, b = false) (hoff : V.off C) (hx : BoxC C (wol V0) W) (hlt : C < W.heap.size) (hC : B0 ≤ C) : XS B0 L n C (setFrom W C 0 (wol V)) V P :=
 ⟨h.fill hoff (U := wol V) hx.some hC, hns, hx.fill rfl, hoff, by rw [setFrom_size]; exact hlt, hC⟩
end
theorem act_mem {P : PW} {t : Nat} {a : AS} {r : RowP} (h : P.act t = some a) (hr : P.rows[t]? = some r) : a ∈ r.l := by
 obtain ⟨_, r2, hr2, ha⟩ := act_some h
 rw [hr] at hr2
 injection hr2 with e
 subst e
 exact List.mem_of_getElem? ha
theorem world_held (A : Option Addr) (n cap : Nat) (ws : List W3) (x : ActsV) (w W : World) (hW : Below w.heap.size w W) (hg : 0 < w.heap.size) (ht : Tab w) (hw : ws.length = n) (hr : Rd w w.heap.size 3 A n (ws.flatMap w3c)) (hws : ∀ y ∈ ws, y.okW) (hx : x.R w w.heap.size) (hxo : ∀ k, ∀ a ∈ x.l k, (actP a).new.okW ∧ inI a.l) (h4 : ∀ k, k < 3 → (x.l k).length ≤ 4) (h7 : x.tot 3 ≤ 7) (hn1 : 1 ≤ n) (hn2 : n ≤ 12) :
  Calls Tryz.prog 7 #[.slice A n cap, .agg #[x.sl 0, x.sl 1, x.sl 2]] W fun e w' => ∃ V : WorldV, e = .returned (.tuple #[(woV V), .bool true]) ∧ (Held w.heap.size n 0 w' V (PW0 ws x) ∧ ∀ b ∈ (PW0 ws x).ss, b = false) ∧ Below W.heap.size W w' := by
 refine (world_ok A n cap ws x W hw ((hr.below hW).more hW.size) (fun k hk => ((hx k hk).below hW).more hW.size) h4 h7 hn1 hn2).mono ?_
 rintro e w' ⟨V, rfl, hS, hR, hb⟩
 have hb2 : Below w.heap.size w w' := hW.trans (hb.mono hW.size)
 have hin := PW0_in hws (fun k hk => ⟨by have := h4 k hk; omega, fun a ha => (hxo k a ha).1⟩)
 rw [hw] at hin
 refine ⟨V, rfl, ⟨⟨hR, hS, hin, fun r hr => ?_, ht.below hb2 hg, hb2.size, hg, by omega, fun r hr a ha => ?_⟩, fun b hb => ?_⟩, hb⟩
 ·obtain ⟨k, hk, rfl⟩ := List.mem_map.1 (show r ∈ (List.range 3).map (fun k => (⟨x.A k, x.c k, x.l k, 0⟩ : RowP)) from hr)
  exact (hx k (List.mem_range.1 hk)).below hb2
 ·obtain ⟨k, hk, rfl⟩ := List.mem_map.1 (show r ∈ (List.range 3).map (fun k => (⟨x.A k, x.c k, x.l k, 0⟩ : RowP)) from hr)
  exact (hxo k a ha).2
 ·exact List.eq_of_mem_replicate (show b ∈ List.replicate 3 false from hb)
theorem world_no (A : Option Addr) (n cap : Nat) (x : ActsV) (w : World) (hb : (∃ k, k < 3 ∧ 4 < (x.l k).length) ∨ 7 < x.tot 3 ∨ n = 0 ∨ 12 < n) :
  Calls Tryz.prog 7 #[.slice A n cap, .agg #[x.sl 0, x.sl 1, x.sl 2]] w (Ret (.tuple #[.agg #[.slice none 0 0, .slice none 0 0, .slice none 0 0, .slice none 0 0, .map none, .slice none 0 0, .int .i64 0, .slice none 0 0, .slice none 0 0], .bool false]) w) := by
 obtain ⟨i0, hi0, jz0, jz1, jz2⟩ := info_parts info_code59
 have hi := hide hi0
 have iz0 := hide jz0
 have iz1 := hide jz1
 have iz2 := hide jz2
 have Hb := hide hb
 clear hb hi0 jz0 jz1 jz2
 go_enter Tryz.func7, Tryz.ntmps7
 go_wp2_with fail
 obtain ⟨w1, hw1⟩ : ∃ W : World, W = (w.alloc (.cells #[x.sl 0, x.sl 1, x.sl 2] 25)).alloc (.cells #[.slice none 0 0, .slice none 0 0, .slice none 0 0, .slice none 0 0, .map none, .slice none 0 0, .int .i64 0, .slice none 0 0, .slice none 0 0] 40) := ⟨_, rfl⟩
 have hB1 : Below w.heap.size w w1 := by rw [hw1]; exact ab0
 have hs1 : w.heap.size + 1 + 1 ≤ w1.heap.size := by rw [hw1]; simp
 have hC : BoxC (w.heap.size + 1) [.slice none 0 0, .slice none 0 0, .slice none 0 0, .slice none 0 0, .map none, .slice none 0 0, .int .i64 0, .slice none 0 0, .slice none 0 0] w1 := by rw [hw1]; have q := BoxC.made (w.alloc (.cells #[x.sl 0, x.sl 1, x.sl 2] 25)) #[.slice none 0 0, .slice none 0 0, .slice none 0 0, .slice none 0 0, .map none, .slice none 0 0, .int .i64 0, .slice none 0 0, .slice none 0 0] 40; simpa using q
 have HC := hide hC
 clear hC
 rw [← hw1]
 clear hw1
 go_loopw [15, 6, 7] (fun i m v wr => ∃ (k : Nat) (z : Int), i = .int .i64 z ∧ z = k ∧ k ≤ 3 ∧ m = .int .i64 (x.tot k) ∧ wr.ownsRow w1.heap.size 71 1 v k ((List.range k).map x.cv) ∧ Hid (∀ j, j < k → (x.l j).length ≤ 4) ∧ Hid (Below w1.heap.size w1 wr)) (fun i _ _ _ => 3 - (intOf i).toNat)
 case atStart => exact ⟨0, 0, rfl, rfl, by omega, rfl, World.ownsRow_nil _ _ _ _, hide (fun j h => absurd h oM), hide (Below.refl _ _)⟩
 case round =>
  obtain ⟨k, z, rfl, hz, hk, rfl, hown, H4, HB⟩ := hrel
  by_cases hlt : z < 3
  ·have hk3 : k < 3 := by omega
   have hB0 : Below w1.heap.size w1 wr := HB.out
   have hB0w : Below w.heap.size w wr := hB1.trans (hB0.mono hB1.size)
   have hsr := HB.out.size
   have hidx : (Instr.index 25 (.agg #[x.sl 0, x.sl 1, x.sl 2]) (.int .i64 (k : Int))).run Tryz.prog wr = .ok (.slice (x.A k) (x.l k).length (x.c k)) wr := by
    have h3 : k = 0 ∨ k = 1 ∨ k = 2 := by omega
    rcases h3 with rfl | rfl | rfl <;> rfl
   by_cases hle : 4 < (x.l k).length
   ·have g1 : ((x.l k).length : Int) > 4 := by omega
    have g2 : (4 : Int) < ((x.l k).length : Int) := by omega
    clear hown HB H4 hle
    have hzC : w.heap.size + 1 < w1.heap.size := by omega
    have hzD : w.heap.size + 1 < wr.heap.size := by omega
    have c0 := (hB0.cell (p := ⟨w.heap.size + 1, 0, none⟩) hzC).trans (HC.out.at (j := 0) rfl)
    have c1 := (hB0.cell (p := ⟨w.heap.size + 1, 1, none⟩) hzC).trans (HC.out.at (j := 1) rfl)
    have c2 := (hB0.cell (p := ⟨w.heap.size + 1, 2, none⟩) hzC).trans (HC.out.at (j := 2) rfl)
    have c3 := (hB0.cell (p := ⟨w.heap.size + 1, 3, none⟩) hzC).trans (HC.out.at (j := 3) rfl)
    have c4 := (hB0.cell (p := ⟨w.heap.size + 1, 4, none⟩) hzC).trans (HC.out.at (j := 4) rfl)
    have c5 := (hB0.cell (p := ⟨w.heap.size + 1, 5, none⟩) hzC).trans (HC.out.at (j := 5) rfl)
    have c6 := (hB0.cell (p := ⟨w.heap.size + 1, 6, none⟩) hzC).trans (HC.out.at (j := 6) rfl)
    have c7 := (hB0.cell (p := ⟨w.heap.size + 1, 7, none⟩) hzC).trans (HC.out.at (j := 7) rfl)
    have c8 := (hB0.cell (p := ⟨w.heap.size + 1, 8, none⟩) hzC).trans (HC.out.at (j := 8) rfl)
    have fz2 : ∀ o, wr.frozen? ⟨w.heap.size + 1, o, none⟩ = false := fun o => (hB0.frozen (p := ⟨w.heap.size + 1, o, none⟩) hzC).trans (HC.out.2.1 o)
    go_wp2_with fail
    refine bodyPost_ret (v := .tuple #[.agg #[.slice none 0 0, .slice none 0 0, .slice none 0 0, .slice none 0 0, .map none, .slice none 0 0, .int .i64 0, .slice none 0 0, .slice none 0 0], .bool false]) (by simp [results, Tryz.results7, go_sem]; (try go_simp)) rfl ⟨rfl, ?_⟩
    exact ab0
   have h5 : ∀ j, j < k + 1 → (x.l j).length ≤ 4 := fun j hj => by
    by_cases e : j = k
    ·subst e; omega
    ·exact H4.out j oM
   have H5 := hide h5
   have hle1 : ¬ (((x.l k).length : Int) > 4) := by omega
   have hle' : ¬ ((4 : Int) < ((x.l k).length : Int)) := by omega
   have hsum : ((x.tot k : Nat) : Int) + ((x.l k).length : Int) = ((x.tot (k + 1) : Nat) : Int) := by rw [x.tot_succ]; omega
   have htb : x.tot (k + 1) ≤ 12 := by
    have e4 := x.tot_succ 0
    have e5 := x.tot_succ 1
    have e6 := x.tot_succ 2
    have e7 : x.tot 0 = 0 := rfl
    have h3 : k = 0 ∨ k = 1 ∨ k = 2 := by omega
    rcases h3 with rfl | rfl | rfl
    ·have e1 := h5 0 oM
     simp only [Nat.zero_add, Nat.reduceAdd] at e4 e5 e6 ⊢
     omega
    ·have e1 := h5 0 oM
     have e2 := h5 1 oM
     simp only [Nat.zero_add, Nat.reduceAdd] at e4 e5 e6 ⊢
     omega
    ·have e1 := h5 0 oM
     have e2 := h5 1 oM
     have e3 := h5 2 oM
     simp only [Nat.zero_add, Nat.reduceAdd] at e4 e5 e6 ⊢
     omega
   have hwr : IntKind.i64.wrap (((x.tot k : Nat) : Int) + ((x.l k).length : Int)) = ((x.tot (k + 1) : Nat) : Int) := by rw [hsum]; exact IntWalk.i64_in _ oM
   have Hown := hide hown
   obtain ⟨A9, c9, rfl, hc9, hA9⟩ := own_slice hown
   clear hown HB
   clear h5 H4 hle
   go_wp2_with (first
    | (at_builtin; (refine wpList_append_own _ rfl _ _ 78 rfl w1.heap.size 71 i0 _ 1 16 Tryz.underlying78 hi.out iz0.out iz1.out iz2.out rfl dM (.slice A9 k c9) k ((List.range k).map x.cv) rfl (own_below Hown.out ab0) ⟨wr.heap.size, 0, none⟩ 1 1 [x.cv k] rfl rfl ?o2 ?o3 ?o4 ?o5 ?o6 ?_)))
   case o2 => exact fun j u h => h
   case o3 => rfl
   case o4 => unfold maxLen; omega
   case o5 => omega
   case o6 => exact (by first | omega | (simp; done) | (simp; omega))
   intro v5 w5 how5 hg5 _
   have hB5 : Below w1.heap.size w1 w5 := below_grown (hB0.trans (ab0)) hg5 (own_below Hown.out ab0) (Nat.le_refl _) (by simp; omega)
   have How5 := hide how5
   have HB5 := hide hB5
   clear how5 hB5 hg5
   go_wp2_with fail
   first
    | exact ⟨⟨k + 1, (k : Int) + 1, by go_num, by omega, by omega, rfl, by rw [List.range_succ, List.map_append]; exact How5.out, H5, HB5⟩, by simp [intOf]; omega⟩
    | ((repeat apply Exists.intro); exact ⟨⟨k + 1, (k : Int) + 1, by go_num, by omega, by omega, rfl, by rw [List.range_succ, List.map_append]; exact How5.out, H5, HB5⟩, by simp [intOf]; omega⟩)
  ·obtain rfl : k = 3 := by omega
   obtain rfl : z = 3 := by omega
   have hbb : 7 < x.tot 3 ∨ n = 0 ∨ 12 < n := by
    rcases Hb.out with ⟨k, h1, h2⟩ | h
    ·have := H4.out k h1
     omega
    ·exact h
   have hB0 : Below w1.heap.size w1 wr := HB.out
   have hB0w : Below w.heap.size w wr := hB1.trans (HB.out.mono hB1.size)
   have hsr := HB.out.size
   clear hown hz hk hlt H4 HB Hb
   have hzC : w.heap.size + 1 < w1.heap.size := by omega
   have hzD : w.heap.size + 1 < wr.heap.size := by omega
   have c0 := (hB0.cell (p := ⟨w.heap.size + 1, 0, none⟩) hzC).trans (HC.out.at (j := 0) rfl)
   have c1 := (hB0.cell (p := ⟨w.heap.size + 1, 1, none⟩) hzC).trans (HC.out.at (j := 1) rfl)
   have c2 := (hB0.cell (p := ⟨w.heap.size + 1, 2, none⟩) hzC).trans (HC.out.at (j := 2) rfl)
   have c3 := (hB0.cell (p := ⟨w.heap.size + 1, 3, none⟩) hzC).trans (HC.out.at (j := 3) rfl)
   have c4 := (hB0.cell (p := ⟨w.heap.size + 1, 4, none⟩) hzC).trans (HC.out.at (j := 4) rfl)
   have c5 := (hB0.cell (p := ⟨w.heap.size + 1, 5, none⟩) hzC).trans (HC.out.at (j := 5) rfl)
   have c6 := (hB0.cell (p := ⟨w.heap.size + 1, 6, none⟩) hzC).trans (HC.out.at (j := 6) rfl)
   have c7 := (hB0.cell (p := ⟨w.heap.size + 1, 7, none⟩) hzC).trans (HC.out.at (j := 7) rfl)
   have c8 := (hB0.cell (p := ⟨w.heap.size + 1, 8, none⟩) hzC).trans (HC.out.at (j := 8) rfl)
   have fz2 : ∀ o, wr.frozen? ⟨w.heap.size + 1, o, none⟩ = false := fun o => (hB0.frozen (p := ⟨w.heap.size + 1, o, none⟩) hzC).trans (HC.out.2.1 o)
   by_cases g7 : 7 < x.tot 3
   ·have g1 : ((x.tot 3 : Nat) : Int) > 7 := by omega
    have g2 : (7 : Int) < ((x.tot 3 : Nat) : Int) := by omega
    clear hbb g7
    go_wp2_with fail
    refine bodyPost_ret (v := .tuple #[.agg #[.slice none 0 0, .slice none 0 0, .slice none 0 0, .slice none 0 0, .map none, .slice none 0 0, .int .i64 0, .slice none 0 0, .slice none 0 0], .bool false]) (by simp [results, Tryz.results7, go_sem]; (try go_simp)) rfl ⟨rfl, ?_⟩
    exact ab0
   have g1 : ¬ ((x.tot 3 : Nat) : Int) > 7 := by omega
   have g2 : ¬ (7 : Int) < ((x.tot 3 : Nat) : Int) := by omega
   by_cases g0 : n = 0
   ·subst g0
    clear hbb g7
    go_wp2_with fail
    refine bodyPost_ret (v := .tuple #[.agg #[.slice none 0 0, .slice none 0 0, .slice none 0 0, .slice none 0 0, .map none, .slice none 0 0, .int .i64 0, .slice none 0 0, .slice none 0 0], .bool false]) (by simp [results, Tryz.results7, go_sem]; (try go_simp)) rfl ⟨rfl, ?_⟩
    exact ab0
   have g3 : ((n : Int) == 0) = false := by simpa using g0
   have g3' : (n : Int) ≠ 0 := by omega
   have g4 : (n : Int) > 12 := by omega
   have g4' : (12 : Int) < (n : Int) := by omega
   clear hbb g7 g0
   go_wp2_with fail
   refine bodyPost_ret (v := .tuple #[.agg #[.slice none 0 0, .slice none 0 0, .slice none 0 0, .slice none 0 0, .map none, .slice none 0 0, .int .i64 0, .slice none 0 0, .slice none 0 0], .bool false]) (by simp [results, Tryz.results7, go_sem]; (try go_simp)) rfl ⟨rfl, ?_⟩
   exact ab0
end Go.Proofs.YtnnmenmifphadaaGreatDoor
