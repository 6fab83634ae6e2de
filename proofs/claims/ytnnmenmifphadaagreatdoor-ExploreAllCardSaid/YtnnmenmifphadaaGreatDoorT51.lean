/- ExploreAll: All returns the outcomes that lie on all the paths, and the number of keys on them; with a smaller limit ErrMany. -/
import Derived.Deep.RegionHeld3
import Derived.Test.YtnnmenmifphadaaGreatDoorCards
import Derived.Test.YtnnmenmifphadaaGreatDoorTie
import Derived.Test.YtnnmenmifphadaaGreatDoorT03
import Derived.Test.YtnnmenmifphadaaGreatDoorT20
import Derived.Test.YtnnmenmifphadaaGreatDoorT21
import Derived.Test.YtnnmenmifphadaaGreatDoorT32
import Derived.Test.YtnnmenmifphadaaGreatDoorT45
import Derived.Test.YtnnmenmifphadaaGreatDoorT47
import Derived.Test.YtnnmenmifphadaaGreatDoorT48
import Derived.Test.YtnnmenmifphadaaGreatDoorT50
set_option linter.unusedSimpArgs false
set_option linter.unusedVariables false
set_option maxRecDepth 100000
set_option maxHeartbeats 40000000
namespace Go.Proofs.YtnnmenmifphadaaGreatDoor
open Go.RowKit Go.Maps Go.Sort
abbrev E59 : Expl PW := rowsE (fun _ => True) 0
def PW.rk (P : PW) : Nat := (P.rows.map (fun r => r.l.length - r.i)).sum
theorem sum_mod {l : List RowP} : ∀ {t : Nat} {r : RowP}, l[t]? = some r → r.i < r.l.length → ((l.modify t RowP.nx).map (fun r => r.l.length - r.i)).sum + 1 = (l.map (fun r => r.l.length - r.i)).sum := by
 induction l with
 | nil => intro t r h; simp at h
 | cons x l ih =>
  intro t r h hr
  cases t with
  | zero =>
   simp only [List.getElem?_cons_zero, Option.some.injEq] at h
   subst h
   simp only [List.modify_zero_cons, List.map_cons, List.sum_cons, RowP.nx]
   omega
  | succ t =>
   have := ih (by simpa using h) hr
   simp only [List.modify_succ_cons, List.map_cons, List.sum_cons]
   omega
theorem nx_rk {P : PW} {t : Nat} {a : AS} {c : Int} (ha : P.act t = some a) : (P.nx t a c).rk + 1 = P.rk := by
 obtain ⟨_, r, h1, h2⟩ := act_some ha
 exact sum_mod h1 (List.getElem?_eq_some_iff.1 h2).1
theorem stp_lt {cs : List Nat} {k : Nat} {s : Nat × Nat} (h : s ∈ stpTo cs k) : s.1 < k := by
 unfold stpTo at h
 obtain ⟨t, h1, h2⟩ := List.mem_flatMap.1 h
 obtain ⟨c, _, rfl⟩ := List.mem_map.1 h2
 exact List.mem_range.1 h1
def OkW (L : Nat) (rs : List RowP) (P : PW) : Prop := (∃ n, P.In L 3 n) ∧ P.Of L rs
theorem alike59 (L : Nat) (rs : List RowP) : AlikeE E59 (OkW L rs) PW.rk := by
 refine ⟨?_, ?_⟩
 ·rintro P s ⟨⟨n, hi⟩, ho⟩ hs
  obtain ⟨a, ha, e⟩ := step_parts (stp_mem (P := P) hs)
  show OkW L rs (P.next s) ∧ (P.next s).rk + 1 = P.rk
  rw [e]
  exact ⟨⟨⟨_, nx_in hi ha⟩, nx_of hi.q.hs ho⟩, nx_rk ha⟩
 ·rintro P P' ⟨⟨n, hi⟩, ho⟩ ⟨⟨n', hi'⟩, ho'⟩ hk
  have h := key_sim hi hi' ho ho' hk
  refine ⟨h.cs, ?_, by unfold PW.rk; rw [h.rows], fun s hs => ?_⟩
  ·show P.outP = P'.outP
   unfold PW.outP MW.words
   rw [h.q.hs, h.gots]
  ·refine (h.next (s := s) ?_).key
   have h1 := stp_lt hs
   have h2 := cs_len P
   have h3 := hi.rt
   have h4 := hi.q.vs
   have h5 : s.1 < P.cs.length := h1
   omega
structure LWalk (bo bk bl : Nat) (O K : DataW Unit) (lf : Int) (w : World) : Prop where
 o : w.ownsMap Tryz.prog 9 (plainElem Tryz.prog 4) bo (Maps.size O) O
 k : w.ownsMap Tryz.prog 9 (plainElem Tryz.prog 4) bk (Maps.size K) K
 l : BoxC bl [.int .i64 lf] w
 ok : bo ≠ bk
 ol : bo ≠ bl
 kl : bk ≠ bl
section
variable {bo bk bl : Nat} {O K O' K' : DataW Unit} {lf lf' : Int} {w w' : World}
theorem LWalk.below (h : LWalk bo bk bl O K lf w) (hb : Below w.heap.size w w') : LWalk bo bk bl O K lf w' :=
 ⟨h.o.kept (grown_of_below hb none) sM, h.k.kept (grown_of_below hb none) sM, h.l.below hb, h.ok, h.ol, h.kl⟩
theorem LWalk.putO (h : LWalk bo bk bl O K lf w) (hg : w.grownBy w' (some bo)) {n : Nat} (ho : w'.ownsMap Tryz.prog 9 (plainElem Tryz.prog 4) bo n O') : LWalk bo bk bl O' K lf w' :=
 ⟨ownsMap_refit ho, h.k.kept hg (by intro e; injection e with e; exact h.ok e.symm), h.l.grownB hg (fun e => h.ol e.symm), h.ok, h.ol, h.kl⟩
theorem LWalk.putK (h : LWalk bo bk bl O K lf w) (hg : w.grownBy w' (some bk)) {n : Nat} (ho : w'.ownsMap Tryz.prog 9 (plainElem Tryz.prog 4) bk n K') : LWalk bo bk bl O K' lf w' :=
 ⟨h.o.kept hg (by intro e; injection e with e; exact h.ok e), ownsMap_refit ho, h.l.grownB hg (fun e => h.kl e.symm), h.ok, h.ol, h.kl⟩
theorem LWalk.set (h : LWalk bo bk bl O K lf w) (x : Int) : LWalk bo bk bl O K x (w.setCell ⟨bl, 0, none⟩ (.int .i64 x)) := by
 have hg : w.grownBy (setFrom w bl 0 [.int .i64 x]) (some bl) := grownBy_setFrom bl _ 0 w
 exact ⟨h.o.kept hg (by intro e; injection e with e; exact h.ol e), h.k.kept hg (by intro e; injection e with e; exact h.kl e), h.l.fill rfl, h.ok, h.ol, h.kl⟩
structure LKept (bo bk bl : Nat) (w w' : World) : Prop where
 os : w'.os = w.os
 tape : w'.tape = w.tape
 output : w'.output = w.output
 size : w.heap.size ≤ w'.heap.size
 block : ∀ k, k < w.heap.size → k ≠ bo → k ≠ bk → k ≠ bl → w'.heap[k]? = w.heap[k]?
 held : ∀ (B0 L n : Nat) (V : WorldV) (P : PW), B0 ≤ bo ∧ B0 ≤ bk ∧ B0 ≤ bl → V.off bo ∧ V.off bk ∧ V.off bl → Held B0 L n w V P → Held B0 L n w' V P
theorem LKept.trans {c : World} (h : LKept bo bk bl w w') (k : LKept bo bk bl w' c) : LKept bo bk bl w c :=
 ⟨k.os.trans h.os, k.tape.trans h.tape, k.output.trans h.output, Nat.le_trans h.size k.size, fun i hi g1 g2 g3 => (k.block i (Nat.lt_of_lt_of_le hi h.size) g1 g2 g3).trans (h.block i hi g1 g2 g3), fun B0 L n V P hB ho hh => k.held B0 L n V P hB ho (h.held B0 L n V P hB ho hh)⟩
theorem LKept.of (hb : Below w.heap.size w w') : LKept bo bk bl w w' :=
 ⟨hb.os, hb.tape, hb.output, hb.size, fun k hk _ _ _ => hb.block k hk, fun _ _ _ _ _ _ _ h => h.below hb⟩
theorem LKept.grownO (hg : w.grownBy w' (some bo)) (hC : StrM bo w) : LKept bo bk bl w w' :=
 ⟨hg.os, hg.tape, hg.output, hg.size, fun k hk g1 _ _ => hg.block k hk (by intro e; injection e with e; exact g1 e), fun _ _ _ _ _ hB ho h => h.grownB ho.1 hB.1 hC hg⟩
theorem LKept.grownK (hg : w.grownBy w' (some bk)) (hC : StrM bk w) : LKept bo bk bl w w' :=
 ⟨hg.os, hg.tape, hg.output, hg.size, fun k hk _ g1 _ => hg.block k hk (by intro e; injection e with e; exact g1 e), fun _ _ _ _ _ hB ho h => h.grownB ho.2.1 hB.2.1 hC hg⟩
theorem LKept.set (h : LWalk bo bk bl O K lf w) (x : Int) : LKept bo bk bl w (w.setCell ⟨bl, 0, none⟩ (.int .i64 x)) := by
 have hg : w.grownBy (setFrom w bl 0 [.int .i64 x]) (some bl) := grownBy_setFrom bl _ 0 w
 exact ⟨hg.os, hg.tape, hg.output, hg.size, fun k hk _ _ g1 => hg.block k hk (by intro e; injection e with e; exact g1 e), fun _ _ _ _ _ hB ho hh => hh.fill ho.2.2 (U := [.int .i64 x]) h.l.some hB.2.2⟩
theorem LKept.below {B : Nat} (h : LKept bo bk bl w w') (h1 : B ≤ bo) (h2 : B ≤ bk) (h3 : B ≤ bl) (hB : B ≤ w.heap.size) : Below B w w' :=
 ⟨h.os, h.tape, h.output, h.size, fun k hk => h.block k oM oM oM oM⟩
theorem LKept.box {C : Nat} {cs : List Value} (h : LKept bo bk bl w w') (hx : BoxC C cs w) (h1 : C ≠ bo) (h2 : C ≠ bk) (h3 : C ≠ bl) : BoxC C cs w' :=
 ⟨fun j u hj => (World.cell?_of_block (a := ⟨C, j, none⟩) (h.block C hx.2.2 h1 h2 h3)).trans (hx.1 j u hj), fun o => (World.frozen?_of_block (a := ⟨C, o, none⟩) (h.block C hx.2.2 h1 h2 h3)).trans (hx.2.1 o), Nat.lt_of_lt_of_le hx.2.2 h.size⟩
end
structure LRes (ks : List UInt8 → Prop) (os : List UInt8 → Prop) (O K : DataW Unit) (lf : Int) (ok : Bool) (O' K' : DataW Unit) (lf' : Int) : Prop where
 no : ok = false → lf' < 0
 le : ok = true → 0 ≤ lf' ∧ (Maps.size O' : Int) + lf' ≤ (Maps.size O : Int) + lf ∧ (Maps.size K' : Int) + lf' ≤ (Maps.size K : Int) + lf
 k : ok = true → ∀ x, has K' (.string x) = true ↔ has K (.string x) = true ∨ ks x
 o : ok = true → ∀ x, has O' (.string x) = true ↔ has O (.string x) = true ∨ os x
def keysT (d : List (Nat × Nat)) (P : PW) (x : List UInt8) : Prop := ∃ s ∈ d, ∃ y ∈ TE E59 PW.rk (P.next s), y.keyP = x
def outsT (d : List (Nat × Nat)) (P : PW) (x : List UInt8) : Prop := ∃ s ∈ d, ∃ y ∈ TE E59 PW.rk (P.next s), stpE E59 y = [] ∧ y.outP = x
def keysP (P : PW) (x : List UInt8) : Prop := ∃ y ∈ TE E59 PW.rk P, y.keyP = x
def outsP (P : PW) (x : List UInt8) : Prop := ∃ y ∈ TE E59 PW.rk P, stpE E59 y = [] ∧ y.outP = x
theorem keysT_snoc {d : List (Nat × Nat)} {s : Nat × Nat} {P : PW} {x : List UInt8} : keysT (d ++ [s]) P x ↔ keysT d P x ∨ keysP (P.next s) x := by
 unfold keysT keysP
 simp only [List.mem_append, List.mem_singleton]
 constructor
 ·rintro ⟨u, hu | rfl, h⟩
  ·exact .inl ⟨u, hu, h⟩
  ·exact .inr h
 ·rintro (⟨u, hu, h⟩ | h)
  ·exact ⟨u, .inl hu, h⟩
  ·exact ⟨s, .inr rfl, h⟩
theorem outsT_snoc {d : List (Nat × Nat)} {s : Nat × Nat} {P : PW} {x : List UInt8} : outsT (d ++ [s]) P x ↔ outsT d P x ∨ outsP (P.next s) x := by
 unfold outsT outsP
 simp only [List.mem_append, List.mem_singleton]
 constructor
 ·rintro ⟨u, hu | rfl, h⟩
  ·exact .inl ⟨u, hu, h⟩
  ·exact .inr h
 ·rintro (⟨u, hu, h⟩ | h)
  ·exact ⟨u, .inl hu, h⟩
  ·exact ⟨s, .inr rfl, h⟩
theorem keysT_nil {P : PW} {x : List UInt8} : ¬ keysT [] P x := by rintro ⟨s, hs, _⟩; cases hs
theorem outsT_nil {P : PW} {x : List UInt8} : ¬ outsT [] P x := by rintro ⟨s, hs, _⟩; cases hs
section
variable {L : Nat} {rs : List RowP} {P : PW} {x : List UInt8}
theorem keysP_all (h : OkW L rs P) : keysP P x ↔ x = P.keyP ∨ keysT (stpE E59 P) P x := by
 unfold keysP keysT
 constructor
 ·rintro ⟨y, hy, rfl⟩
  rcases (tree_mem (alike59 L rs) h).1 hy with rfl | ⟨s, hs, hy⟩
  ·exact .inl rfl
  ·exact .inr ⟨s, hs, y, hy, rfl⟩
 ·rintro (rfl | ⟨s, hs, y, hy, rfl⟩)
  ·exact ⟨P, tree_self (alike59 L rs) h, rfl⟩
  ·exact ⟨y, (tree_mem (alike59 L rs) h).2 (.inr ⟨s, hs, hy⟩), rfl⟩
theorem outsP_all (h : OkW L rs P) : outsP P x ↔ (stpE E59 P = [] ∧ x = P.outP) ∨ outsT (stpE E59 P) P x := by
 unfold outsP outsT
 constructor
 ·rintro ⟨y, hy, hz, rfl⟩
  rcases (tree_mem (alike59 L rs) h).1 hy with rfl | ⟨s, hs, hy⟩
  ·exact .inl ⟨hz, rfl⟩
  ·exact .inr ⟨s, hs, y, hy, hz, rfl⟩
 ·rintro (⟨hz, rfl⟩ | ⟨s, hs, y, hy, hz, rfl⟩)
  ·exact ⟨P, tree_self (alike59 L rs) h, hz, rfl⟩
  ·exact ⟨y, (tree_mem (alike59 L rs) h).2 (.inr ⟨s, hs, hy⟩), hz, rfl⟩
end
theorem step_eq {P : PW} {t c : Nat} {a : AS} (ha : P.act t = some a) : P.next (t, c) = P.nx t a (c : Int) := by
 unfold PW.next
 rw [show (t, c).1 = t from rfl, ha]
theorem law_walk (bo bk bl L : Nat) (rs : List RowP) : ∀ (r B0 n : Nat) (P : PW) (V : WorldV) (O K : DataW Unit) (lf : Int) (w : World), P.rk = r → n + r ≤ 90 → Held B0 L n w V P → P.Of L rs → (∀ b ∈ P.ss, b = false) → (B0 ≤ bo ∧ B0 ≤ bk ∧ B0 ≤ bl) → (V.off bo ∧ V.off bk ∧ V.off bl) → LWalk bo bk bl O K lf w → 0 ≤ lf → ((Maps.size O : Int) + lf ≤ 20000 ∧ (Maps.size K : Int) + lf ≤ 20000) →
  Calls Tryz.prog 9 #[(woV V), .map (some bo), .map (some bk), .pointer (some ⟨bl, 0, none⟩)] w fun e w' => ∃ (ok : Bool) (O' K' : DataW Unit) (lf' : Int), e = .returned (.bool ok) ∧ LWalk bo bk bl O' K' lf' w' ∧ LKept bo bk bl w w' ∧ LRes (keysP P) (outsP P) O K lf ok O' K' lf' := by
 intro r
 induction r using Nat.strongRecOn with
 | ind r ih =>
 intro B0 n P V O K lf w hr hn hH hOf hns hB hoff hW hlf hsz
 have IH := hide ih
 have HH := hide hH
 have HOf := hide hOf
 have Hns := hide hns
 have HB := hide hB
 have Hoff := hide hoff
 have HW := hide hW
 have Hr := hide hr
 have hbo := hW.o.lt
 have hbk := hW.k.lt
 have hbl := hW.l.2.2
 have cl : w.cell? ⟨bl, 0, none⟩ = some (.int .i64 lf) := hW.l.at rfl
 have fl : w.frozen? ⟨bl, 0, none⟩ = false := hW.l.2.1 0
 have hsO := hsz.1
 have hsK := hsz.2
 clear ih hH hOf hns hB hoff hW hr hsz
 by_cases h0 : lf = 0
 ·subst h0
  go_enter Tryz.func9, Tryz.ntmps9
  go_wp2_with fail
  have hB1 : Below (w.setCell ⟨bl, 0, none⟩ (.int .i64 (-1))).heap.size (w.setCell ⟨bl, 0, none⟩ (.int .i64 (-1))) ((w.setCell ⟨bl, 0, none⟩ (.int .i64 (-1))).alloc (.cells #[.slice V.M.mem.pA V.M.mem.hs.length V.M.mem.pc, .slice V.M.mem.vA V.M.mem.vs.length V.M.mem.vc, .slice V.M.ln.fA V.M.ln.first.length V.M.ln.fc, .slice V.M.ln.lA V.M.ln.logs.length V.M.ln.lc, .map V.M.ln.asks, .slice V.M.sA V.M.steps.length V.M.sc, .int .i64 V.M.crashes, .slice V.tA V.ts.length V.tc, .slice V.sA V.ss.length V.sc] 40)) := Below.alloc (Below.refl _ _) (Nat.le_refl _) _
  go_ret
  exact ⟨false, O, K, -1, rfl, (HW.out.set (-1)).below hB1, (LKept.set HW.out (-1)).trans (LKept.of hB1), ⟨fun _ => by decide, (fun e => by cases e), (fun e => by cases e), (fun e => by cases e)⟩⟩
 have hlf1 : 1 ≤ lf := by omega
 have hlt0 : ¬ lf - 1 < 0 := by omega
 clear h0
 go_enter Tryz.func9, Tryz.ntmps9
 go_upto_region 4 with fail
 obtain ⟨w1, hw1⟩ : ∃ W : World, W = w.setCell ⟨bl, 0, none⟩ (.int .i64 (lf - 1)) := ⟨_, rfl⟩
 have HW1 := hide (show LWalk bo bk bl O K (lf - 1) w1 by rw [hw1]; exact HW.out.set _)
 have HK1 := hide (show LKept bo bk bl w w1 by rw [hw1]; exact LKept.set HW.out _)
 have hs1 : w1.heap.size = w.heap.size := by rw [hw1]; simp
 try rw [← hw1]
 obtain ⟨w2, hw2⟩ : ∃ W : World, W = w1.alloc (.cells #[.slice V.M.mem.pA V.M.mem.hs.length V.M.mem.pc, .slice V.M.mem.vA V.M.mem.vs.length V.M.mem.vc, .slice V.M.ln.fA V.M.ln.first.length V.M.ln.fc, .slice V.M.ln.lA V.M.ln.logs.length V.M.ln.lc, .map V.M.ln.asks, .slice V.M.sA V.M.steps.length V.M.sc, .int .i64 V.M.crashes, .slice V.tA V.ts.length V.tc, .slice V.sA V.ss.length V.sc] 40) := ⟨_, rfl⟩
 have hb12 : Below w1.heap.size w1 w2 := by rw [hw2]; exact Below.alloc (Below.refl _ _) (Nat.le_refl _) _
 have hx2 : BoxC w.heap.size (wol V) w2 := by
  rw [hw2, ← hs1]
  exact BoxC.made w1 #[.slice V.M.mem.pA V.M.mem.hs.length V.M.mem.pc, .slice V.M.mem.vA V.M.mem.vs.length V.M.mem.vc, .slice V.M.ln.fA V.M.ln.first.length V.M.ln.fc, .slice V.M.ln.lA V.M.ln.logs.length V.M.ln.lc, .map V.M.ln.asks, .slice V.M.sA V.M.steps.length V.M.sc, .int .i64 V.M.crashes, .slice V.tA V.ts.length V.tc, .slice V.sA V.ss.length V.sc] 40
 have HW2 := hide (HW1.out.below hb12)
 have HK2 := hide (HK1.out.trans (LKept.of hb12))
 have HH2 := hide (HK2.out.held _ _ _ _ _ HB.out Hoff.out HH.out)
 have hs2 : w2.heap.size = w.heap.size + 1 := by rw [hw2]; simp [hs1]
 try rw [← hw2]
 have hz2 : w.heap.size < w2.heap.size := by omega
 have HX2 := hide hx2
 clear hw1 hw2 hb12 hx2 HW1 HK1 hs1 cl fl HW
 have hkey := fun W (hW : Below w2.heap.size w2 W) => held_key (HH2.out.below hW) oM
 have Hkey := hide hkey
 have hkl : keyOf Tryz.prog 9 (.string ⟨P.keyP.toArray⟩) = some (.string P.keyP) := key_of _ (key_short HH2.out.i (by have := HH2.out.l; omega) oM oM)
 have Hkl := hide hkl
 clear hkey hkl hs2
 obtain ⟨Bx, hBx⟩ : ∃ b, b = w.heap.size := ⟨_, rfl⟩
 rw [← hBx] at HX2 hz2 hbo hbk hbl ⊢
 have HBx := hide hBx
 clear hBx
 obtain ⟨y0, y1, y2, y3, y4, y5, y6, y7, y8, yf⟩ := box9 HX2.out
 go_wp2_with (first
  | (go_at_call 15; refine (Hkey.out _ (by first | with_reducible assumption | exact ab0)).mono ?_; rintro e w3 ⟨rfl, hb3⟩; have hs3 := hb3.size; (try simp at hs3); have HW3 := hide (HW2.out.below hb3); have HK3 := hide (HK2.out.trans (LKept.of hb3)); have HX3 := hide (HX2.out.below hb3); clear hb3)
  | (at_mapUpdate; refine wpList_mapUpdate_own _ rfl _ _ _ 44 rfl 9 4 (string_keyed Tryz.underlying9) Tryz.underlying44 (plainElem Tryz.prog 4) bk (Maps.size K) K rfl HW3.out.k (by unfold maxLen; omega) _ _ _ rfl rfl Hkl.out (.lit (.bool true)) [] (plainElem_bool Tryz.underlying4 true) ?_; intro w4 hown4 hg4; have Hown4 := hide hown4; have Hg4 := hide hg4; have hs4 := hg4.size; clear hown4 hg4))
 obtain ⟨K1, hK1⟩ : ∃ D, D = K.put (.string P.keyP) (.lit (.bool true)) := ⟨_, rfl⟩
 rw [← hK1] at Hown4
 have hK1m : ∀ x, has K1 (.string x) = true ↔ has K (.string x) = true ∨ x = P.keyP := fun x => by rw [hK1]; exact has_put_iff HW3.out.k.isMap
 have hK1s : Maps.size K1 ≤ Maps.size K + 1 := by
  rw [hK1, Maps.size_put (HW3.out.k.tidy (string_keyed Tryz.underlying9))]
  split <;> omega
 have HK1m := hide hK1m
 have HW4 := hide (HW3.out.putK Hg4.out Hown4.out)
 have HK4 := hide (HK3.out.trans (LKept.grownK Hg4.out (StrM.of HW3.out.k)))
 have HX4 := hide (HX3.out.grownB Hg4.out oM)
 have hz4 : Bx < w4.heap.size := by omega
 have hl1 : (0 : Int) ≤ lf - 1 := by omega
 have hl2 : (Maps.size O : Int) + (lf - 1) ≤ 19999 := by omega
 have hl3 : (Maps.size K1 : Int) + (lf - 1) ≤ 20000 := by omega
 have hl4 : Hid ((Maps.size O : Int) + (lf - 1) + 1 ≤ (Maps.size O : Int) + lf ∧ (Maps.size K1 : Int) + (lf - 1) ≤ (Maps.size K : Int) + lf) := hide ⟨by omega, by omega⟩
 obtain ⟨l0, hl0⟩ : ∃ l, l = lf - 1 := ⟨_, rfl⟩
 rw [← hl0] at HW4 hl1 hl2 hl3 hl4
 obtain ⟨e1, e2, e3, e4, e5, e6⟩ := HH2.out.lens
 have ht1 : V.ts.length ≤ 3 := by omega
 have ht2 : 3 ≤ V.ts.length := by omega
 have Hc3 : Hid (P.cs.length = 3) := hide (by rw [cs_len]; omega)
 clear hK1 hK1m hK1s hl0 e1 e2 e3 e4 e5 e6 hsO hsK hlf1 hlf hlt0 hs3 hs4 y0 y1 y2 y3 y4 y5 y6 y7 y8 yf Hown4 Hg4 HW3 HK3 HX3 HW2 Hkey hz2
 have HOK := hide (show OkW L rs P from ⟨⟨n, HH2.out.i⟩, HOf.out⟩)
 go_loopw [9, 10] (fun s9 s10 wr => ∃ (t : Nat) (Oa Ka : DataW Unit) (la : Int), s9 = .bool (stpTo P.cs t).isEmpty ∧ s10 = .int .i64 ((t : Int) + 1) ∧ t ≤ 3 ∧ (0 ≤ la ∧ (Maps.size Oa : Int) + la ≤ (Maps.size O : Int) + l0 ∧ (Maps.size Ka : Int) + la ≤ (Maps.size K1 : Int) + l0) ∧ Hid (LWalk bo bk bl Oa Ka la wr) ∧ Hid (∀ x, has Ka (.string x) = true ↔ has K1 (.string x) = true ∨ keysT (stpTo P.cs t) P x) ∧ Hid (∀ x, has Oa (.string x) = true ↔ has O (.string x) = true ∨ outsT (stpTo P.cs t) P x) ∧ Hid (LKept bo bk bl w wr) ∧ Hid (BoxC Bx (wol V) wr)) (fun _ i _ => 4 - (intOf i).toNat)
 case atStart => exact ⟨0, O, K1, l0, rfl, rfl, by omega, ⟨hl1, Int.le_refl _, Int.le_refl _⟩, HW4, hide (fun x => ⟨fun h => .inl h, fun h => h.resolve_right keysT_nil⟩), hide (fun x => ⟨fun h => .inl h, fun h => h.resolve_right outsT_nil⟩), HK4, HX4⟩
 case round =>
  obtain ⟨t, Oa, Ka, la, rfl, rfl, ht, hla, HWr, Hka, Hoa, HKr, HXr⟩ := hrel
  obtain ⟨y0, y1, y2, y3, y4, y5, y6, y7, y8, yf⟩ := box9 HXr.out
  have hzr : Bx < wr.heap.size := HXr.out.2.2
  obtain ⟨hla0, hla1, hla2⟩ := hla
  obtain ⟨emp, hemp⟩ : ∃ b, b = (stpTo P.cs t).isEmpty := ⟨_, rfl⟩
  rw [← hemp]
  have Hemp := hide hemp
  clear hemp
  by_cases hlt : (t : Int) + 1 ≤ (V.ts.length : Int)
  ·have ht3 : t < 3 := by omega
   have HHr := hide (HKr.out.held _ _ _ _ _ HB.out Hoff.out HH.out)
   have hch := fun W (hW : Below wr.heap.size wr W) => held_ch (HHr.out.below hW) oM Hns.out ht3
   have Hch := hide hch
   clear hch
   go_upto_region 10 with (first
    | (go_at_call 17; refine (Hch.out _ (by first | with_reducible assumption | exact ab0)).mono ?_; rintro e w5 ⟨rfl, hb5⟩; have hs5 := hb5.size; (try simp at hs5); have HW5 := hide (HWr.out.below hb5); have HK5 := hide (HKr.out.trans (LKept.of hb5)); have HX5 := hide (HXr.out.below hb5); clear hb5))
   obtain ⟨m, hm⟩ : ∃ m, m = P.ch t := ⟨_, rfl⟩
   rw [← hm]
   have hm1 : m ≤ 1000 := by rw [hm]; exact ch_le (HHr.out.fit oM) t
   have Hm := hide hm
   clear hm hs5 y0 y1 y2 y3 y4 y5 y6 y7 y8 yf Hch
   go_loopw [9, 36] (fun s9 s36 wq => ∃ (c : Nat) (Ob Kb : DataW Unit) (lb : Int), s9 = .bool (stpTo P.cs t ++ (List.range c).map (fun c => (t, c))).isEmpty ∧ s36 = .int .i64 (c : Int) ∧ c ≤ m ∧ (0 ≤ lb ∧ (Maps.size Ob : Int) + lb ≤ (Maps.size O : Int) + l0 ∧ (Maps.size Kb : Int) + lb ≤ (Maps.size K1 : Int) + l0) ∧ Hid (LWalk bo bk bl Ob Kb lb wq) ∧ Hid (∀ x, has Kb (.string x) = true ↔ has K1 (.string x) = true ∨ keysT (stpTo P.cs t ++ (List.range c).map (fun c => (t, c))) P x) ∧ Hid (∀ x, has Ob (.string x) = true ↔ has O (.string x) = true ∨ outsT (stpTo P.cs t ++ (List.range c).map (fun c => (t, c))) P x) ∧ Hid (LKept bo bk bl w wq) ∧ Hid (BoxC Bx (wol V) wq)) (fun _ i _ => m - (intOf i).toNat)
   case atStart => exact ⟨0, Oa, Ka, la, by rw [Hemp.out]; simp, rfl, by omega, ⟨hla0, hla1, hla2⟩, HW5, by simpa using Hka, by simpa using Hoa, HK5, HX5⟩
   case round =>
    obtain ⟨c, Ob, Kb, lb, rfl, rfl, hc, ⟨hlb0, hlb1, hlb2⟩, HWq, Hkb, Hob, HKq, HXq⟩ := hrel
    obtain ⟨y0, y1, y2, y3, y4, y5, y6, y7, y8, yf⟩ := box9 HXq.out
    have hzq : Bx < wr.heap.size := HXq.out.2.2
    obtain ⟨emq, hemq⟩ : ∃ b, b = (stpTo P.cs t ++ (List.range c).map (fun c => (t, c))).isEmpty := ⟨_, rfl⟩
    rw [← hemq]
    have Hemq := hide hemq
    clear hemq
    by_cases hltc : (c : Int) < (m : Int)
    ·obtain ⟨a, ha, -⟩ := step_parts (P := P) (s := (t, c)) (show c < P.ch t by rw [← Hm.out]; omega)
     have HHq := hide (HKq.out.held _ _ _ _ _ HB.out Hoff.out HH.out)
     have hst := fun W (hW : Below wr.heap.size wr W) => held_step (HHq.out.below hW) oM ha (c : Int) (WalkArith.wf_i64 oM)
     have Hst := hide hst
     have Ha := hide ha
     have Hoq := hide (show V.off wr.heap.size from WorldV.off_new HHq.out.r (Nat.le_refl _))
     clear hst ha
     go_upto_region 14 with (first
      | (go_at_call 13; refine (Hst.out _ (by first | with_reducible assumption | exact ab0)).mono ?_; rintro e w6 ⟨V2, rfl, hH2, hoff2, hb6⟩; have hs6 := hb6.size; (try simp at hs6); have HH2' := hide hH2; have Hoff2 := hide hoff2; have Hb6 := hide hb6; clear hH2 hoff2 hb6))
     obtain ⟨w7, hw7⟩ : ∃ W : World, W = w6.alloc (.cells #[.slice V2.M.mem.pA V2.M.mem.hs.length V2.M.mem.pc, .slice V2.M.mem.vA V2.M.mem.vs.length V2.M.mem.vc, .slice V2.M.ln.fA V2.M.ln.first.length V2.M.ln.fc, .slice V2.M.ln.lA V2.M.ln.logs.length V2.M.ln.lc, .map V2.M.ln.asks, .slice V2.M.sA V2.M.steps.length V2.M.sc, .int .i64 V2.M.crashes, .slice V2.tA V2.ts.length V2.tc, .slice V2.sA V2.ss.length V2.sc] 40) := ⟨_, rfl⟩
     have hb67 : Below w6.heap.size w6 w7 := by rw [hw7]; exact Below.alloc (Below.refl _ _) (Nat.le_refl _) _
     have hx7 : BoxC w6.heap.size (wol V2) w7 := by rw [hw7]; exact BoxC.made w6 #[.slice V2.M.mem.pA V2.M.mem.hs.length V2.M.mem.pc, .slice V2.M.mem.vA V2.M.mem.vs.length V2.M.mem.vc, .slice V2.M.ln.fA V2.M.ln.first.length V2.M.ln.fc, .slice V2.M.ln.lA V2.M.ln.logs.length V2.M.ln.lc, .map V2.M.ln.asks, .slice V2.M.sA V2.M.steps.length V2.M.sc, .int .i64 V2.M.crashes, .slice V2.tA V2.ts.length V2.tc, .slice V2.sA V2.ss.length V2.sc] 40
     try rw [← hw7]
     obtain ⟨Bn, hBn⟩ : ∃ b, b = w6.heap.size := ⟨_, rfl⟩
     rw [← hBn] at hx7 ⊢
     have hz7 : Bn < w7.heap.size := hx7.2.2
     have hb7 : Below wr.heap.size wr w7 := Hb6.out.trans (hb67.mono Hb6.out.size)
     have HW7 := hide (HWq.out.below hb7)
     have HK7 := hide (HKq.out.trans (LKept.of hb7))
     have HH7 := hide (HH2'.out.below hb67)
     have hbo7 : bo < w7.heap.size := by omega
     have hbk7 : bk < w7.heap.size := by omega
     have hbl7 : bl < w7.heap.size := by omega
     have hrk : (P.nx t a (c : Int)).rk + 1 = P.rk := nx_rk Ha.out
     have HO2 := hide (show V2.off bo ∧ V2.off bk ∧ V2.off bl from ⟨Hoff2.out bo oM Hoff.out.1, Hoff2.out bk oM Hoff.out.2.1, Hoff2.out bl oM Hoff.out.2.2⟩)
     have hr' := Hr.out
     have hwk := IH.out (P.nx t a (c : Int)).rk oM B0 (n + 1) (P.nx t a (c : Int)) V2 Ob Kb lb w7 rfl oM HH7.out (nx_of HHq.out.i.q.hs HOf.out) Hns.out HB.out HO2.out HW7.out hlb0 ⟨by omega, by omega⟩
     have Hwk := hide hwk
     obtain ⟨y0, y1, y2, y3, y4, y5, y6, y7, y8, yf⟩ := box9 hx7
     have HX7 := hide (HXq.out.below hb7)
     clear hw7 hb67 hBn hb7 hrk hr' hwk hs6 Hst HWq
     go_upto_if 56 with (first
      | (go_at_call 9; refine Hwk.out.mono ?_; rintro e w8 ⟨ok, O8, K8, lf8, rfl, hLW8, hLK8, hRes8⟩; have HW8 := hide hLW8; have HK8 := hide hLK8; have HRes8 := hide hRes8; have hs8 := hLK8.size; clear hLW8 hLK8 hRes8))
     have HX8 := hide (HK8.out.box HX7.out oM oM oM)
     cases ok with
     | false =>
      go_wp2_with fail
      go_ret
      exact ⟨false, O8, K8, lf8, rfl, HW8.out, HK7.out.trans HK8.out, ⟨HRes8.out.no, (fun e => by cases e), (fun e => by cases e), (fun e => by cases e)⟩⟩
     | true =>
      go_wp2_with fail
      refine ⟨⟨c + 1, O8, K8, lf8, ?_, by go_num, by omega, (by have := HRes8.out.le rfl; omega), HW8, hide (fun x => ?_), hide (fun x => ?_), hide (HK7.out.trans HK8.out), HX8⟩, by simp [intOf]; omega⟩
      ·rw [rng_succ]
       simp
      ·rw [rng_succ, keysT_snoc, HRes8.out.k rfl x, Hkb.out x, or_assoc, step_eq Ha.out]
      ·rw [rng_succ, outsT_snoc, HRes8.out.o rfl x, Hob.out x, or_assoc, step_eq Ha.out]
    ·obtain rfl : m = c := by omega
     have hstp : stpTo P.cs (t + 1) = stpTo P.cs t ++ (List.range m).map (fun c => (t, c)) := by rw [stpTo_succ, cs_getD, Hm.out]
     have Hstp := hide hstp
     clear hstp
     go_wp2_with fail
     exact ⟨⟨t + 1, Ob, Kb, lb, by rw [Hstp.out, Hemq.out], by go_num, by omega, ⟨hlb0, hlb1, hlb2⟩, HWq, by rw [Hstp.out]; exact Hkb, by rw [Hstp.out]; exact Hob, HKq, HXq⟩, by simp [intOf]; omega⟩
  ·obtain rfl : t = 3 := by omega
   have HHr := hide (HKr.out.held _ _ _ _ _ HB.out Hoff.out HH.out)
   have hall : stpE E59 P = stpTo P.cs 3 := by
    show stpTo P.cs P.cs.length = _
    rw [Hc3.out]
   have Hall := hide hall
   clear hall
   cases emp with
   | false =>
    have hne : stpTo P.cs 3 ≠ [] := fun e => by have h := Hemp.out; rw [e] at h; cases h
    have Hne := hide hne
    clear hne
    go_wp2_with fail
    refine bodyPost_ret (v := .bool true) (by simp [results, Tryz.results9, go_sem]) rfl (.inr ⟨rfl, Oa, Ka, la, HWr.out, HKr.out, ⟨(fun e => by cases e), fun _ => ?_, fun _ x => ?_, fun _ x => ?_⟩⟩)
    ·have := hl4.out
     omega
    ·rw [Hka.out x, HK1m.out x, keysP_all HOK.out, Hall.out, or_assoc]
    ·rw [Hoa.out x, outsP_all HOK.out, Hall.out]
     exact or_congr_right ⟨fun h => .inr h, fun h => h.resolve_left (fun h => Hne.out h.1)⟩
   | true =>
    have he : stpTo P.cs 3 = [] := List.isEmpty_iff.1 Hemp.out.symm
    have He := hide he
    have htext := fun W (hW : Below wr.heap.size wr W) => held_text (HHr.out.below hW) oM
    have Htext := hide htext
    have hkl : keyOf Tryz.prog 9 (.string ⟨P.outP.toArray⟩) = some (.string P.outP) := key_of _ ((HHr.out.fit oM).ol)
    have Hkl2 := hide hkl
    have hszO : Maps.size Oa ≤ 20000 := by omega
    clear he htext hkl
    go_wp2_with (first
     | (go_at_call 16; refine (Htext.out _ (by first | with_reducible assumption | exact ab0)).mono ?_; rintro e w5 ⟨rfl, hb5⟩; have hs5 := hb5.size; (try simp at hs5); have HW5 := hide (HWr.out.below hb5); have HK5 := hide (HKr.out.trans (LKept.of hb5)); clear hb5)
     | (at_mapUpdate; refine wpList_mapUpdate_own _ rfl _ _ _ 44 rfl 9 4 (string_keyed Tryz.underlying9) Tryz.underlying44 (plainElem Tryz.prog 4) bo (Maps.size Oa) Oa rfl HW5.out.o (by unfold maxLen; omega) _ _ _ rfl rfl Hkl2.out (.lit (.bool true)) [] (plainElem_bool Tryz.underlying4 true) ?_; intro w6 hown6 hg6; have Hown6 := hide hown6; have Hg6 := hide hg6; have hs6 := hg6.size; clear hown6 hg6))
    have hsz := Maps.size_put (k := .string P.outP) (HW5.out.o.tidy (string_keyed Tryz.underlying9)) (.lit (.bool true))
    go_ret
    refine ⟨true, _, Ka, la, rfl, HW5.out.putO Hg6.out Hown6.out, HK5.out.trans (LKept.grownO Hg6.out (StrM.of HW5.out.o)), ⟨(fun e => by cases e), fun _ => ?_, fun _ x => ?_, fun _ x => ?_⟩⟩
    ·have := hl4.out
     rw [hsz]
     split <;> omega
    ·rw [Hka.out x, HK1m.out x, keysP_all HOK.out, Hall.out, or_assoc]
    ·rw [has_put_iff HW5.out.o.isMap, Hoa.out x, outsP_all HOK.out, Hall.out, He.out]
     constructor
     ·rintro ((h | h) | h)
      ·exact .inl h
      ·exact (outsT_nil h).elim
      ·exact .inr (.inl ⟨rfl, h⟩)
     ·rintro (h | ⟨_, h⟩ | h)
      ·exact .inl (.inl h)
      ·exact .inr h
      ·exact (outsT_nil h).elim
theorem allP_rows (Ok : PW → Prop) (B0 : Nat) (most : Int) : ∀ (n : Nat) (x : PW) (S F : DataW Unit), allP (rowsE Ok B0) most n x S F = allP E59 most n x S F := by
 intro n
 induction n with
 | zero => intro x S F; rfl
 | succ n ih =>
  intro x S F
  rw [allP_succ, allP_succ]
  have e : stepP (rowsE Ok B0) most n x = stepP E59 most n x := by
   funext r s
   unfold stepP
   split
   ·exact ih _ _ _
   ·rfl
  rw [e]
  rfl
def OkB (L : Nat) (rs : List RowP) (P : PW) : Prop := (∃ n, P.In L 3 n ∧ n + P.rk ≤ 90) ∧ P.Of L rs ∧ ∀ b ∈ P.ss, b = false
theorem okB_ok {L : Nat} {rs : List RowP} (B0 : Nat) (hL : 0 < L ∧ L ≤ 12) (hB : 0 < B0) : ExplOK (rowsE (OkB L rs) B0) B0 :=
 rows_ok _ B0 hB (fun P ⟨⟨n, h1, h2⟩, h3, h4⟩ => ⟨h1.fits oM oM oM, fun r hr => (h1.rows r hr).1, h4⟩) (fun P s ⟨⟨n, h1, h2⟩, h3, h4⟩ hs => by
  obtain ⟨a, ha, e⟩ := step_parts (stp_mem (P := P) hs)
  rw [e]
  have := nx_rk (c := s.2) ha
  exact ⟨⟨n + 1, nx_in h1 ha, by omega⟩, nx_of h1.q.hs h3, h4⟩)
theorem strT_owns {R : Value → Option (DataW Unit × List MemPlace)} {b n : Nat} {D : DataW Unit} {w : World} (h : w.ownsMap Tryz.prog 9 R b n D) : StrT D := by
 obtain ⟨es, e, hp, _⟩ := h.entries (string_keyed Tryz.underlying9)
 obtain ⟨es', e', hk⟩ := h.keysOf
 subst e
 injection e' with e'
 subst e'
 refine ⟨es, rfl, hp, fun p hp' => ?_⟩
 obtain ⟨v, hv⟩ := hk p hp'
 obtain ⟨x, _, hx, _⟩ := Maps.keyOf_str Tryz.underlying9 hv
 exact ⟨x, hx⟩
theorem str_cells {W : World} {B g : Nat} {l : List (List UInt8)} (h : Rd W B 1 (some ⟨g, 0, none⟩) l.length (l.map encStr)) (hl : 0 < l.length) : ∀ j, j < (l.map (fun x => (⟨x.toArray⟩ : ByteArray))).length → W.cell? ⟨g, 0 + j, none⟩ = some (.string ((l.map (fun x => (⟨x.toArray⟩ : ByteArray))).getD j ByteArray.empty)) := by
 intro j hj
 rw [List.length_map] at hj
 obtain ⟨b, off, e, _, hc⟩ := h.2 hl
 cases e
 have h1 : (l.map encStr)[j]? = some (encStr l[j]) := by rw [List.getElem?_map, List.getElem?_eq_getElem hj]; rfl
 rw [hc j _ h1, List.getD_eq_getElem?_getD, List.getElem?_map, List.getElem?_eq_getElem hj]
 rfl
theorem equal_rows (v1 v2 : Value) (l : List (List UInt8)) (B1 B2 : Nat) (W : World) (h1 : W.ownsRow B1 9 1 v1 l.length (l.map encStr)) (h2 : W.ownsRow B2 9 1 v2 l.length (l.map encStr)) (hl : l.length ≤ 1000000) :
  Calls Tryz.prog 11 #[v1, v2] W (Ret (.bool true) W) := by
 by_cases h0 : l.length = 0
 ·have e : ∀ (B : Nat) (v : Value), W.ownsRow B 9 1 v l.length (l.map encStr) → ∃ a c, v = .slice a 0 c := fun B v h => by
   rcases h.2 with ⟨rfl, _⟩ | ⟨g, c, cur, rfl, _⟩
   ·exact ⟨none, 0, rfl⟩
   ·exact ⟨_, c, by rw [h0]⟩
  obtain ⟨a1, c1, rfl⟩ := e _ _ h1
  obtain ⟨a2, c2, rfl⟩ := e _ _ h2
  refine (Tryz.slices_Equal_string_empty a1 a2 c1 0 c2 W oM).mono ?_
  rintro e w' ⟨rfl, rfl⟩
  exact ⟨rfl, Below.refl _ _⟩
 ·obtain ⟨g1, c1, rfl, _, _, r1⟩ := own_some h1 oM
  obtain ⟨g2, c2, rfl, _, _, r2⟩ := own_some h2 oM
  refine (Tryz.slices_Equal_string g1 0 l.length c1 g2 0 l.length c2 (l.map (fun x => (⟨x.toArray⟩ : ByteArray))) (l.map (fun x => (⟨x.toArray⟩ : ByteArray))) W sM sM oM oM (str_cells r1 oM) (str_cells r2 oM)).mono ?_
  rintro e w' ⟨rfl, q, rfl⟩
  exact ⟨by rw [decide_eq_true rfl], below_drewN (Below.refl _ _) q⟩
theorem PW0_rk (ws : List W3) (x : ActsV) : (PW0 ws x).rk = x.tot 3 := by
 unfold PW.rk PW0 ActsV.tot
 simp [List.map_map, Function.comp_def]
theorem all_far (A : Option Addr) (n cap : Nat) (x : ActsV) (w : World) (ht : Tab w) (hg : 0 < w.heap.size) (hb : (∃ k, k < 3 ∧ 4 < (x.l k).length) ∨ 7 < x.tot 3 ∨ n = 0 ∨ 12 < n) :
  Calls Tryz.prog 3 #[.slice A n cap, .agg #[x.sl 0, x.sl 1, x.sl 2]] w (Ret (.bool true) w) := by
 have hno := fun W => world_no A n cap x W hb
 have Hno := hide hno
 have HTab := hide ht
 clear hno hb ht
 go_enter Tryz.func3, Tryz.ntmps3
 go_wp2_with (first
  | (go_at_call 7; refine (Hno.out _).mono ?_; rintro e w1 ⟨rfl, hb1⟩; have hs1 := hb1.size; (try simp at hs1))
  | (go_at_call 8; refine (awake59_any _ (HTab.out.below (N := w.heap.size) (by first | with_reducible assumption | exact ab0) hg) (by first | omega | (simp; done) | (simp; omega))).mono ?_; rintro e w9 ⟨rfl, hb9⟩))
 go_ret
 exact ⟨rfl, ab0⟩
theorem all_main (A : Option Addr) (n cap : Nat) (ws : List W3) (x : ActsV) (w : World) (ht : Tab w) (hg : 0 < w.heap.size) (hw : ws.length = n) (hr : Rd w w.heap.size 3 A n (ws.flatMap w3c)) (hws : ∀ y ∈ ws, y.okW) (hx : x.R w w.heap.size) (hxo : ∀ k, ∀ a ∈ x.l k, (actP a).new.okW ∧ inI a.l) (h4 : ∀ k, k < 3 → (x.l k).length ≤ 4) (h7 : x.tot 3 ≤ 7) (hn1 : 1 ≤ n) (hn2 : n ≤ 12) :
  Calls Tryz.prog 3 #[.slice A n cap, .agg #[x.sl 0, x.sl 1, x.sl 2]] w (Ret (.bool true) w) := by
 have hok := fun W (hW : Below w.heap.size w W) => world_held A n cap ws x w W hW hg ht hw hr hws hx hxo h4 h7 hn1 hn2
 have Hok := hide hok
 have HTab := hide ht
 have Hof := hide (show (PW0 ws x).Of n (PW0 ws x).rows by rw [← hw]; exact PW0_of ws x)
 have Hrk := hide (show (PW0 ws x).rk ≤ 7 by rw [PW0_rk]; exact h7)
 have Hn := hide (And.intro hn1 hn2)
 clear hok hr hws hx hxo h4 h7 hn1 hn2 ht hw
 have hmm := @run_makeMap Tryz.prog
 go_enter Tryz.func3, Tryz.ntmps3
 go_upto_region 2 with (first
  | (go_at_call 7; refine (Hok.out _ (by first | with_reducible assumption | exact ab0)).mono ?_; rintro e w1 ⟨V, rfl, hH0, hb1⟩; have hs1 := hb1.size; (try simp at hs1); have HH0 := hide hH0; clear hH0))
 go_upto_region 6 with fail
 obtain ⟨w2, hw2⟩ : ∃ W : World, W = (((w1.alloc (.cells #[.slice V.M.mem.pA V.M.mem.hs.length V.M.mem.pc, .slice V.M.mem.vA V.M.mem.vs.length V.M.mem.vc, .slice V.M.ln.fA V.M.ln.first.length V.M.ln.fc, .slice V.M.ln.lA V.M.ln.logs.length V.M.ln.lc, .map V.M.ln.asks, .slice V.M.sA V.M.steps.length V.M.sc, .int .i64 V.M.crashes, .slice V.tA V.ts.length V.tc, .slice V.sA V.ss.length V.sc] 40)).alloc (.map #[] 0)).alloc (.map #[] 0)).alloc (.cells #[.int .i64 20000] 3) := ⟨_, rfl⟩
 have hb12 : Below w1.heap.size w1 w2 := by rw [hw2]; exact ab0
 have hs2 : w2.heap.size = w1.heap.size + 1 + 1 + 1 + 1 := by rw [hw2]; simp
 have hx2 : BoxC w1.heap.size (wol V) w2 := by
  rw [hw2]
  have q := BoxC.made w1 #[.slice V.M.mem.pA V.M.mem.hs.length V.M.mem.pc, .slice V.M.mem.vA V.M.mem.vs.length V.M.mem.vc, .slice V.M.ln.fA V.M.ln.first.length V.M.ln.fc, .slice V.M.ln.lA V.M.ln.logs.length V.M.ln.lc, .map V.M.ln.asks, .slice V.M.sA V.M.steps.length V.M.sc, .int .i64 V.M.crashes, .slice V.tA V.ts.length V.tc, .slice V.sA V.ss.length V.sc] 40
  exact q.below (by exact ab0)
 have hW2 : LWalk (w1.heap.size + 1) (w1.heap.size + 1 + 1) (w1.heap.size + 1 + 1 + 1) (.map []) (.map []) 20000 w2 := by
  rw [hw2]
  have q1 := World.ownsMap_made (H := Unit) (w1.alloc (.cells #[.slice V.M.mem.pA V.M.mem.hs.length V.M.mem.pc, .slice V.M.mem.vA V.M.mem.vs.length V.M.mem.vc, .slice V.M.ln.fA V.M.ln.first.length V.M.ln.fc, .slice V.M.ln.lA V.M.ln.logs.length V.M.ln.lc, .map V.M.ln.asks, .slice V.M.sA V.M.steps.length V.M.sc, .int .i64 V.M.crashes, .slice V.tA V.ts.length V.tc, .slice V.sA V.ss.length V.sc] 40)) Tryz.prog 9 (plainElem Tryz.prog 4)
  have q2 := World.ownsMap_made (H := Unit) ((w1.alloc (.cells #[.slice V.M.mem.pA V.M.mem.hs.length V.M.mem.pc, .slice V.M.mem.vA V.M.mem.vs.length V.M.mem.vc, .slice V.M.ln.fA V.M.ln.first.length V.M.ln.fc, .slice V.M.ln.lA V.M.ln.logs.length V.M.ln.lc, .map V.M.ln.asks, .slice V.M.sA V.M.steps.length V.M.sc, .int .i64 V.M.crashes, .slice V.tA V.ts.length V.tc, .slice V.sA V.ss.length V.sc] 40)).alloc (.map #[] 0)) Tryz.prog 9 (plainElem Tryz.prog 4)
  have q3 := BoxC.made (((w1.alloc (.cells #[.slice V.M.mem.pA V.M.mem.hs.length V.M.mem.pc, .slice V.M.mem.vA V.M.mem.vs.length V.M.mem.vc, .slice V.M.ln.fA V.M.ln.first.length V.M.ln.fc, .slice V.M.ln.lA V.M.ln.logs.length V.M.ln.lc, .map V.M.ln.asks, .slice V.M.sA V.M.steps.length V.M.sc, .int .i64 V.M.crashes, .slice V.tA V.ts.length V.tc, .slice V.sA V.ss.length V.sc] 40)).alloc (.map #[] 0)).alloc (.map #[] 0)) #[.int .i64 20000] 3
  simp only [World.size_alloc] at q1 q2 q3
  exact ⟨(q1.alloc _).alloc _, q2.alloc _, q3, by omega, by omega, by omega⟩
 rw [← hw2]
 have hsw : w.heap.size ≤ w1.heap.size := by omega
 have HH2 := hide (HH0.out.1.below hb12)
 have HO2 := hide (show V.off (w1.heap.size + 1) ∧ V.off (w1.heap.size + 1 + 1) ∧ V.off (w1.heap.size + 1 + 1 + 1) from ⟨WorldV.off_new HH0.out.1.r oM, WorldV.off_new HH0.out.1.r oM, WorldV.off_new HH0.out.1.r oM⟩)
 have hB2 : Below w.heap.size w w2 := (ab0 : Below w.heap.size w w1).trans (hb12.mono hsw)
 have HB2 := hide hB2
 have HX2 := hide hx2
 have HW2 := hide hW2
 obtain ⟨C, hC⟩ : ∃ C, C = w1.heap.size := ⟨_, rfl⟩
 rw [← hC] at HX2 HW2 HO2 hsw hs2 ⊢
 have hC1 : C + 1 + 1 + 1 < w2.heap.size := by omega
 clear hw2 hb12 hx2 hW2 hB2 hC hs2 hs1 hb1 hmm
 have hwk := law_walk (C + 1) (C + 1 + 1) (C + 1 + 1 + 1) n (PW0 ws x).rows (PW0 ws x).rk w.heap.size 0 (PW0 ws x) V (.map []) (.map []) 20000 w2 rfl (by have := Hrk.out; omega) HH2.out Hof.out HH0.out.2 ⟨by omega, by omega, by omega⟩ HO2.out HW2.out dM ⟨by decide, by decide⟩
 have Hwk := hide hwk
 obtain ⟨y0, y1, y2, y3, y4, y5, y6, y7, y8, yf⟩ := box9 HX2.out
 clear hwk
 go_upto_if 31 with (first
  | (go_at_call 9; refine Hwk.out.mono ?_; rintro e w8 ⟨ok, O8, K8, lf8, rfl, hLW8, hLK8, hRes8⟩; have HW8 := hide hLW8; have HK8 := hide hLK8; have HRes8 := hide hRes8; have hs8 := hLK8.size; clear hLW8 hLK8 hRes8))
 have hB8 : Below w.heap.size w w8 := HB2.out.trans (HK8.out.below oM oM oM HB2.out.size)
 have hX8 := HK8.out.box HX2.out oM oM oM
 have hH8 := HK8.out.held _ _ _ _ _ ⟨by omega, by omega, by omega⟩ HO2.out HH2.out
 have cl8 : w8.cell? ⟨C + 1 + 1 + 1, 0, none⟩ = some (.int .i64 lf8) := HW8.out.l.at rfl
 have HB8 := hide hB8
 have hsw8 := hB8.size
 have HX8 := hide hX8
 have HH8 := hide hH8
 have hBr8 : Below w8.heap.size w8 w8 := Below.refl _ _
 have hC8 : C + 1 + 1 + 1 < w8.heap.size := by omega
 have hC8' : C < w8.heap.size := by omega
 clear hB8 hX8 hH8 y0 y1 y2 y3 y4 y5 y6 y7 y8 yf Hwk HW2 HX2
 cases ok with
 | false =>
  have hneg : lf8 < 0 := HRes8.out.no rfl
  go_wp2_with (first
   | (go_at_call 8; refine (awake59_any _ (HTab.out.below (N := w.heap.size) HB8.out hg) oM).mono ?_; rintro e w9 ⟨rfl, hb9⟩; obtain ⟨hcc9, hff9⟩ := bcell hb9; have hs9 := hb9.size))
  go_ret
  exact ⟨rfl, HB8.out.trans (hb9.mono hsw8)⟩
 | true =>
  have hempty : ∀ k, has (.map [] : DataW Unit) (.string k) = true ↔ False := fun k => ⟨fun h => by simp [has] at h, fun h => h.elim⟩
  have hKm : ∀ k, has K8 (.string k) = true ↔ keysP (PW0 ws x) k := fun k => by rw [HRes8.out.k rfl k, hempty, false_or]
  have hOm : ∀ k, has O8 (.string k) = true ↔ outsP (PW0 ws x) k := fun k => by rw [HRes8.out.o rfl k, hempty, false_or]
  have hle := HRes8.out.le rfl
  have hszK : Maps.size K8 ≤ 20000 := by
   have h := hle.2.2
   simp only [Maps.size, List.length_nil] at h ⊢
   omega
  have hszO : Maps.size O8 ≤ 20000 := by
   have h := hle.2.1
   simp only [Maps.size, List.length_nil] at h ⊢
   omega
  have hOkW : OkW n (PW0 ws x).rows (PW0 ws x) := ⟨⟨0, HH8.out.i⟩, Hof.out⟩
  have hK0 : 0 < Maps.size K8 := by
   rw [← (strT_owns HW8.out.k).len]
   exact List.length_pos_of_mem (((strT_owns HW8.out.k).mem _).2 ((hKm _).2 ⟨PW0 ws x, tree_self (alike59 n (PW0 ws x).rows) hOkW, rfl⟩))
  obtain ⟨⟨S1, F1, ha1, hsz1, hperm1⟩, S2, F2, ha2⟩ := all_enough (alike59 n (PW0 ws x).rows) hOkW (n := (PW0 ws x).rk + 1) (Nat.lt_succ_self _) (strT_owns HW8.out.k) (strT_owns HW8.out.o) hKm hOm
  have hInv : ∀ W, Below w8.heap.size w8 W → (rowsE (OkB n (PW0 ws x).rows) w.heap.size).Inv W (PW0 ws x) := fun W hW => ⟨⟨⟨0, HH8.out.i, by have := Hrk.out; omega⟩, Hof.out, HH0.out.2⟩, (HH8.out.below hW).rows, (HH8.out.below hW).t, (HH8.out.below hW).b⟩
  have hall1 := fun W (hW : Below w8.heap.size w8 W) => ex_All (rowsE (OkB n (PW0 ws x).rows) w.heap.size) w.heap.size (okB_ok _ HH8.out.l HH8.out.g) (Maps.size K8) oM oM ((PW0 ws x).rk + 1) (PW0 ws x) S1 F1 V W (by rw [allP_rows]; exact ha1) (HH8.out.below hW).r ⟨HH8.out.s, by have := HH8.out.lens; have := Hn.out; omega⟩ (hInv W hW) (HH8.out.below hW).b
  have hall2 := fun W (hW : Below w8.heap.size w8 W) => ex_All_no (rowsE (OkB n (PW0 ws x).rows) w.heap.size) w.heap.size (okB_ok _ HH8.out.l HH8.out.g) ((Maps.size K8 : Int) - 1) oM oM ((PW0 ws x).rk + 1) (PW0 ws x) S2 F2 V W (by rw [allP_rows]; exact ha2) (HH8.out.below hW).r ⟨HH8.out.s, by have := HH8.out.lens; have := Hn.out; omega⟩ (hInv W hW) (HH8.out.below hW).b
  rw [hsz1] at hall1
  have Hall1 := hide hall1
  have Hall2 := hide hall2
  have Hperm1 := hide hperm1
  have Hk0 := hide hK0
  obtain ⟨z, hz⟩ : ∃ z, z = Maps.size K8 := ⟨_, rfl⟩
  rw [← hz] at Hall1 Hall2 hszK Hk0
  have hz1 : 0 < z := Hk0.out
  have hlen : ∀ W, Below w8.heap.size w8 W → ∀ ty, (Builtin.len_ #[44] ty #[.map (some (C + 1 + 1))]).run Tryz.prog W = .ok (.int .i64 z) W := fun W hW ty => by rw [hz]; exact (HW8.out.below hW).k.len Tryz.underlying44 ty
  have Hlen := hide hlen
  have hl8 := Hlen.out w8 (Below.refl _ _)
  clear hempty hKm hOm hle hOkW hK0 ha1 hsz1 hperm1 ha2 hInv hall1 hall2 hz hlen Hk0 cl8
  obtain ⟨y0, y1, y2, y3, y4, y5, y6, y7, y8, yf⟩ := box9 HX8.out
  go_upto_region 9 with (first
   | (go_at_call 10; refine (Hall1.out _ (by first | with_reducible assumption | exact ab0)).mono ?_; rintro e w9 ⟨v, ss, rfl, hp, hrow, hb9⟩; have Hp := hide hp; have Hrow := hide hrow; have Hb9 := hide hb9; have hs9 := hb9.size; clear hp hrow hb9))
  have HX9 := hide (HX8.out.below Hb9.out)
  have hl9 := Hlen.out w9 Hb9.out
  have hB9 := Hb9.out
  have hC9 : C < w9.heap.size := by omega
  clear y0 y1 y2 y3 y4 y5 y6 y7 y8 yf hl8 hBr8 Hall1
  obtain ⟨y0, y1, y2, y3, y4, y5, y6, y7, y8, yf⟩ := box9 HX9.out
  go_upto_region 10 with (first
   | (go_at_call 10; refine (Hall2.out _ (by first | with_reducible assumption | exact ab0)).mono ?_; rintro e w10 ⟨rfl, hb10⟩; have Hb10 := hide hb10; have hs10 := hb10.size; clear hb10))
  have F10 : Below w8.heap.size w8 w10 := Hb9.out.trans (Hb10.out.mono Hb9.out.size)
  have HF10 := hide F10
  have hsort := fun W (hW : Below w10.heap.size w10 W) => law_sorted (C + 1) _ O8 W (HW8.out.below (HF10.out.trans (hW.mono HF10.out.size))).o oM
  have hss : ∀ ss2 : List (List UInt8), ss2.Perm (strKeys O8) → ss.mergeSort leB = ss2.mergeSort leB ∧ ss.length = ss2.length := fun ss2 h2 => ⟨mergeSort_of_perm (Hp.out.trans (Hperm1.out.trans h2.symm)), (Hp.out.trans (Hperm1.out.trans h2.symm)).length_eq⟩
  have hssl : ss.length ≤ 1000000 := by
   rw [(Hp.out.trans Hperm1.out).length_eq, (strT_owns HW8.out.o).len]
   omega
  have heq := fun (v2 : Value) (ss2 : List (List UInt8)) (W : World) (B2 : Nat) (hW : Below w10.heap.size w10 W) (h2 : ss2.Perm (strKeys O8)) (hr2 : W.ownsRow B2 9 1 v2 ss2.length ((ss2.mergeSort leB).map encStr)) => equal_rows v v2 (ss.mergeSort leB) w8.heap.size B2 W (by
   have q := own_below Hrow.out (Hb10.out.trans (hW.mono Hb10.out.size))
   rwa [List.length_mergeSort]) (by
   obtain ⟨q1, q2⟩ := hss ss2 h2
   rw [q1, List.length_mergeSort]
   exact hr2) (by rw [List.length_mergeSort]; exact hssl)
  have Hsort := hide hsort
  have Heq := hide heq
  have hsw10 : w.heap.size ≤ w10.heap.size := by omega
  have hBr10 : Below w10.heap.size w10 w10 := Below.refl _ _
  have HB10 : Hid (Below w.heap.size w w10) := hide (HB8.out.trans (HF10.out.mono hsw8))
  clear hsort heq hss hssl F10 y0 y1 y2 y3 y4 y5 y6 y7 y8 yf hl9 hB9 Hall2 Hrow Hp
  go_wp2_with (first
   | (go_at_call 8; refine (awake59_any _ (HTab.out.below (N := w.heap.size) HB10.out hg) oM).mono ?_; rintro e w11 ⟨rfl, hb11⟩; have hs11 := hb11.size)
   | (go_at_call 12; refine (Hsort.out _ (by first | with_reducible assumption | exact ab0)).mono ?_; rintro e w12 ⟨v2, ss2, rfl, hp2, hrow2, hb12⟩; have Hp2 := hide hp2; have Hrow2 := hide hrow2; have hs12 := hb12.size; clear hp2 hrow2)
   | (go_at_call 11; refine (Heq.out v2 ss2 _ _ (by first | with_reducible assumption | exact ab0) Hp2.out Hrow2.out).mono ?_; rintro e w13 ⟨rfl, hb13⟩; have hs13 := hb13.size; have hl13 := Hlen.out w13 (HF10.out.trans ((ab0 : Below w10.heap.size w10 w13).mono HF10.out.size))))
  go_ret
  exact ⟨rfl, HB10.out.trans ((ab0 : Below w10.heap.size w10 w13).mono hsw10)⟩
end Go.Proofs.YtnnmenmifphadaaGreatDoor
namespace Go.Proofs.YtnnmenmifphadaaGreatDoor.lawAll
open Go.ChangeShapes Go.WideShapes Go.ChangeAt Go.RowKit
theorem own : ownKnob Tryz.prog.godebug = none := by kernel_rfl
theorem tabMet {W : World} (h : laidMetH Tryz.prog Rows.exploreAllRow.laid W) : Tab W ∧ 0 < W.heap.size := by
 have h1 : laidMet Tryz.prog Rows.exploreAllRow.laid W := h
 have ht : Tab W := Lib.tabIs_of_head (g := 0) (rest := []) kR kR Tryz.underlying264 Tryz.underlying162 kR kR (laidMet_drop (laidMet_drop h1))
 refine ⟨ht, ?_⟩
 have q := ht.cell (show Tryz.prog.globalNamed "internal/strconv.uint64pow10" = some 0 by kernel_rfl) 0 dM
 exact cell_lt q
theorem walk : LawWalkL Tryz.prog 3 #[22, 25] Rows.exploreAllRow.laid := by
 intro H enc W base args ds p hval hA hlt hL
 obtain ⟨v0, v1, d0, d1, p0, p1, rfl, rfl, rfl, h0, h1⟩ := trodAll_two hA
 obtain ⟨A, n, cap, e0⟩ := okWide_slice Tryz.underlying22 (hval 0 22 v0 rfl rfl)
 obtain ⟨x, rfl, hx, hxo⟩ := rd_rows59 (hval 1 25 v1 rfl rfl) h1
 subst e0
 obtain ⟨fu0, hf0⟩ := h0
 obtain ⟨A', cap', ws, e0, hws, hr⟩ := rd_words59 hf0
 injection e0 with a1 a2 a3
 subst a1 a3
 obtain ⟨ht, hg⟩ := tabMet hL
 rw [← a2] at hr
 by_cases hbad : (∃ k, k < 3 ∧ 4 < (x.l k).length) ∨ 7 < x.tot 3 ∨ n = 0 ∨ 12 < n
 ·exact all_far A n cap x W ht hg hbad
 ·have h4 : ∀ k, k < 3 → (x.l k).length ≤ 4 := fun k hk => by
   rcases Nat.lt_or_ge 4 (x.l k).length with h | h
   ·exact absurd (.inl ⟨k, hk, h⟩) hbad
   ·exact h
  have h5 : ¬ (7 < x.tot 3 ∨ n = 0 ∨ 12 < n) := fun h => hbad (.inr h)
  exact all_main A n cap ws x W ht hg a2.symm hr hws hx (fun k a ha => hxo k a ha) h4 oM oM oM
def cellsOfD : DataW Unit → Array Value
 | .agg xs => (xs.map fun | .lit (.int k n) => .int k n | _ => undef).toArray
 | _ => #[]
def layD (d : DataW Unit) : Obj → Obj
 | .cells _ t frozen => .cells (cellsOfD d) t frozen
 | o => o
noncomputable def laidWorld (os : Os) : World :=
 { World.holding Tryz.prog os ⟨#[], #[], []⟩ with heap := (((World.holding Tryz.prog os ⟨#[], #[], []⟩).heap.modify 0 (layD Rows.laid_internal_strconv_uint64pow10)).modify 2 (layD Rows.laid_math_bits_deBruijn32tab)).modify 3 (layD Rows.laid_math_bits_deBruijn64tab) }
theorem laid_met (os : Os) : laidMet Tryz.prog Rows.exploreAllRow.laid ((laidWorld os).forCall (fun _ _ => 0) ⟨#[], #[.slice none 0 0, .agg #[.slice none 0 0, .slice none 0 0, .slice none 0 0]], []⟩).memory :=
 laidMet_of_run' 8 kR kR
theorem reads (os : Os) {H : Type} (enc : TypeId × Value → H) : ∃ places, DataW.whole enc Tryz.prog ((laidWorld os).forCall (fun _ _ => 0) ⟨#[], #[.slice none 0 0, .agg #[.slice none 0 0, .slice none 0 0, .slice none 0 0]], []⟩).memory Tryz.f3.params.toList Rows.exploreAllSpec.vars false (#[.slice none 0 0, .agg #[.slice none 0 0, .slice none 0 0, .slice none 0 0]] : Array Value).toList 8 = some ([.nil, .agg [.nil, .nil, .nil]], [], places) :=
 ⟨[], by kernel_rfl⟩
theorem lifted (os : Os) (started : os.Started) (H : Type) (enc : TypeId × Value → H) (F : Stop.Interp) :
  ReturnsInHanded {} Tryz.checked os 3 .any ((OpenSpec.ofChange Rows.exploreAllSpec).preRow enc Tryz.prog Tryz.f3 Rows.exploreAllRow.domain false Rows.exploreAllRow.laid) (((OpenSpec.ofChange Rows.exploreAllSpec).at F).post enc Tryz.prog Tryz.f3 false true false false) := by
 obtain ⟨places, hx⟩ := reads os enc
 refine returnsInHanded_of_row (C := Tryz.checked) (s := OpenSpec.ofChange Rows.exploreAllSpec) own started kR Tryz.func3
  (witness_row_at (enc := enc) (C := Tryz.checked) false (laidWorld os) #[.slice none 0 0, .agg #[.slice none 0 0, .slice none 0 0, .slice none 0 0]] rfl kR kR kR
   (OpenSpec.preRow_of_cond 8 hx kR (fun k hk => by cases hk) kR (laid_met os))) ?_
 intro W base args ds gs before hval hW _ _ _ hL _ _
 exact law_contract (s := Rows.exploreAllSpec) kR kR Tryz.underlying4 kR ⟨rfl, fun H ds h => by match ds, h with | [d1, d2], _ => exact ⟨rfl, rfl, rfl⟩⟩ (by rw [Tryz.params3]; exact walk) W base args ds gs before hval hW hL
theorem over : Rows.exploreAllRow.holds Tryz.pinned (OpenSpec.ofChange Rows.exploreAllSpec) :=
 OpenClaim.holds_of_cond 3 Tryz.f3 rfl rfl rfl rfl rfl rfl rfl ⟨rfl, rfl, rfl, rfl, rfl⟩ rfl rfl rfl rfl rfl kR Tryz.func3 kR
  (of_decide_eq_true kR) (by unfold Func.isWrapper; first | (rw [if_pos (by decide +kernel)]; kernel_rfl) | (rw [if_neg (by decide +kernel)]; exact ⟨rfl, rfl⟩))
  (fun os started H enc _ F => by rw [OpenClaim.pre_eq_preRow]; exact lifted os started H enc F)
theorem plainLaw (f : FuncId) (fn : Func) (hf : Tryz.pinned.checked.prog.funcNamed "simulcast/simulcastlaw59.ExploreAll" = some f) (hfn : Tryz.pinned.checked.prog.funcs[f]? = some fn) :
  true = Tryz.pinned.checked.prog.looks [] ∧ ∀ (j : Nat) t, fn.params[j]? = some t → Tryz.pinned.checked.prog.wantsStandIn t = false := by
 obtain rfl : f = 3 := Option.some.inj ((show Tryz.prog.funcNamed "simulcast/simulcastlaw59.ExploreAll" = some 3 by kernel_rfl).symm.trans hf) |>.symm
 obtain rfl : fn = Tryz.f3 := (Option.some.inj (Tryz.func3.symm.trans hfn)).symm
 refine ⟨by kernel_rfl, fun j t ht => ?_⟩
 rw [Tryz.params3] at ht
 have hm := Array.mem_of_getElem? ht
 have hall : ∀ t ∈ (#[22, 25] : Array TypeId), Tryz.prog.wantsStandIn t = false := by
  intro t h
  simp only [List.mem_toArray, List.mem_cons, List.not_mem_nil, or_false] at h
  rcases h with rfl | rfl
  all_goals kernel_rfl
 exact hall t hm
theorem card : Rows.ExploreAllCardSaid :=
 Claim7.holds_tied_plain_at .later [] _ _ _ _ over (fun _ h => by cases h) kR (fun _ h => by cases h) exploreAll_row_tie rfl ⟨rfl, rfl⟩ kR rfl plainLaw kR
theorem proved : Rows.ExploreAllCardSaid := card
end Go.Proofs.YtnnmenmifphadaaGreatDoor.lawAll
