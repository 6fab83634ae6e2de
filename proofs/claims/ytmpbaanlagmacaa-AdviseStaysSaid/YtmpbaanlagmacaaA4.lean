/- The notes of layer 52: what a list of them leaves, and the law's function that replays them. -/
import Derived.Test.YtmpbaanlagmacaaA3
import Derived.StillTailTactics
namespace Go.Proofs.Ytmpbaanlagmacaa
open Go.RowKit Go.Maps

/-- A note's cells: its thread, whether it is a success, its address. -/
def notec (x : Int × Bool × Int) : List Value := [.int .i64 x.1, .bool x.2.1, .int .i64 x.2.2]
def nstep (many : Int) (s : (Int → Int) × (Int → Int)) (x : Int × Bool × Int) : (Int → Int) × (Int → Int) :=
  if 1 ≤ x.1 ∧ x.1 ≤ many then (if x.2.1 then (upd s.1 x.1 0, s.2) else (upd s.1 x.1 (s.1 x.1 + 1), upd s.2 x.2.2 (s.2 x.2.2 + 1))) else s
/-- The failures by thread and by address behind a list of notes. -/
def nfold (many : Int) (l : List (Int × Bool × Int)) : (Int → Int) × (Int → Int) := l.foldl (nstep many) (fun _ => 0, fun _ => 0)
theorem nfold_snoc (many : Int) (l : List (Int × Bool × Int)) (x : Int × Bool × Int) : nfold many (l ++ [x]) = nstep many (nfold many l) x := by simp [nfold, List.foldl_append]
theorem upd_bd {f : Int → Int} {k : Int} (h : ∀ z, 0 ≤ f z ∧ f z ≤ k) (x y : Int) (h0 : 0 ≤ y) (h1 : y ≤ k + 1) (z : Int) : 0 ≤ upd f x y z ∧ upd f x y z ≤ k + 1 := by
  unfold upd
  have := h z
  split <;> omega
theorem nfold_bd (many : Int) (l : List (Int × Bool × Int)) : (∀ z, 0 ≤ (nfold many l).1 z ∧ (nfold many l).1 z ≤ l.length) ∧ (∀ z, 0 ≤ (nfold many l).2 z ∧ (nfold many l).2 z ≤ l.length) := by
  refine snoc_ind (P := fun l => (∀ z, 0 ≤ (nfold many l).1 z ∧ (nfold many l).1 z ≤ l.length) ∧ (∀ z, 0 ≤ (nfold many l).2 z ∧ (nfold many l).2 z ≤ l.length)) ?_ ?_ l
  · exact ⟨fun z => by simp [nfold], fun z => by simp [nfold]⟩
  · intro l x ⟨h1, h2⟩
    rw [nfold_snoc]
    have e : ((l ++ [x]).length : Int) = (l.length : Int) + 1 := by simp
    rw [e]
    have a1 := h1 x.1
    have a2 := h2 x.2.2
    unfold nstep
    split
    · split
      · exact ⟨fun z => upd_bd h1 _ _ (by omega) (by omega) z, fun z => by have := h2 z; simp only; omega⟩
      · exact ⟨fun z => upd_bd h1 _ _ (by omega) (by omega) z, fun z => upd_bd h2 _ _ (by omega) (by omega) z⟩
    · exact ⟨fun z => by have := h1 z; omega, fun z => by have := h2 z; omega⟩

/-- An advisor's cells at block B. -/
def AdvC (B : Nat) (th : Int) (v1 v2 : Option Nat) (w : World) : Prop :=
  w.cell? ⟨B, 0, none⟩ = some (.int .i64 th) ∧ w.cell? ⟨B, 1, none⟩ = some (.map v1) ∧ w.cell? ⟨B, 2, none⟩ = some (.map v2) ∧
    w.frozen? ⟨B, 0, none⟩ = false ∧ w.frozen? ⟨B, 1, none⟩ = false ∧ w.frozen? ⟨B, 2, none⟩ = false ∧ B < w.heap.size

theorem AdvC.set {B : Nat} {th th' : Int} {v1 v2 v1' v2' : Option Nat} {w : World} (h : AdvC B th v1 v2 w) : AdvC B th' v1' v2' (((w.setCell ⟨B, 0, none⟩ (.int .i64 th')).setCell ⟨B, 1, none⟩ (.map v1')).setCell ⟨B, 2, none⟩ (.map v2')) := by
  obtain ⟨c0, c1, c2, f0, f1, f2, hz⟩ := h
  unfold AdvC
  refine ⟨?_, ?_, ?_, ?_, ?_, ?_, by simpa using hz⟩ <;> simp [go_sem, c0, c1, c2, f0, f1, f2]
theorem AdvC.far {B C : Nat} {th : Int} {v1 v2 : Option Nat} {w : World} (h : AdvC B th v1 v2 w) (hne : C ≠ B) (x0 x1 x2 : Value) : AdvC B th v1 v2 (((w.setCell ⟨C, 0, none⟩ x0).setCell ⟨C, 1, none⟩ x1).setCell ⟨C, 2, none⟩ x2) := by
  obtain ⟨c0, c1, c2, f0, f1, f2, hz⟩ := h
  unfold AdvC
  refine ⟨?_, ?_, ?_, ?_, ?_, ?_, by simpa using hz⟩
  all_goals simp [go_sem, c0, c1, c2, f0, f1, f2, hne]
theorem AdvC.below {B : Nat} {th : Int} {v1 v2 : Option Nat} {w w' : World} (h : AdvC B th v1 v2 w) (hb : Below w.heap.size w w') : AdvC B th v1 v2 w' := by
  obtain ⟨c0, c1, c2, f0, f1, f2, hz⟩ := h
  obtain ⟨hc, hf⟩ := bcell hb
  exact ⟨(hc _ _ hz).trans c0, (hc _ _ hz).trans c1, (hc _ _ hz).trans c2, (hf _ _ hz).trans f0, (hf _ _ hz).trans f1, (hf _ _ hz).trans f2, Nat.lt_of_lt_of_le hz hb.size⟩
theorem AdvR.set3 {w : World} {v1 v2 m1 m2 : Option Nat} {n B : Nat} {f h : Int → Int} {th : Int} (a : AdvR w v1 v2 n f h) (hc : AdvC B th m1 m2 w) (y0 y1 y2 : Value) : AdvR (((w.setCell ⟨B, 0, none⟩ y0).setCell ⟨B, 1, none⟩ y1).setCell ⟨B, 2, none⟩ y2) v1 v2 n f h :=
  ⟨a.1.set3 hc.1 hc.2.1 hc.2.2.1 _ _ _, a.2.set3 hc.1 hc.2.1 hc.2.2.1 _ _ _⟩
theorem AdvR.mono {w : World} {v1 v2 : Option Nat} {n n' : Nat} {f h : Int → Int} (a : AdvR w v1 v2 n f h) (hn : n ≤ n') : AdvR w v1 v2 n' f h := ⟨a.1.mono hn, a.2.mono hn⟩

set_option maxHeartbeats 2000000 in
set_option maxRecDepth 100000 in
theorem noted_ok (th : Int) (A : Option Addr) (n cap : Nat) (l : List (Int × Bool × Int)) (B0 : Nat) (w : World) (ht1 : 1 ≤ th) (ht2 : th ≤ 8) (hn : l.length = n) (h300 : n ≤ 300) (hwf : ∀ x ∈ l, (Lit.int .i64 x.1).wf = true ∧ (Lit.int .i64 x.2.2).wf = true)
    (hB0 : B0 ≤ w.heap.size) (hr : Rd w B0 3 A n (l.flatMap notec)) :
    Calls Try.prog 26 #[.int .i64 th, .slice A n cap] w fun e w' => ∃ v1 v2, e = .returned (.tuple #[.agg #[.int .i64 th, .map v1, .map v2], .int .i64 0]) ∧ AdvR w' v1 v2 n (nfold th l).1 (nfold th l).2 ∧ Below w.heap.size w w' := by
  go_enter Try.func26, Try.ntmps26
  go_wp2_with (first
    | (go_at_call 46; refine (anew_ok _ _ (by omega) (by omega)).mono ?_; rintro e w1 ⟨rfl, hb1⟩; obtain ⟨hc1, hf1⟩ := bcell hb1; have hy1 : w.heap.size < w1.heap.size := (by have h := hb1.size; (try simp at h); omega)))
  go_loopw [8] (fun i wr => ∃ (k : Nat) (v1 v2 : Option Nat), k ≤ n ∧ i = .int .i64 k ∧ AdvC w1.heap.size th v1 v2 wr ∧ AdvC w.heap.size 0 none none wr ∧ AdvR wr v1 v2 k (nfold th (l.take k)).1 (nfold th (l.take k)).2 ∧ Below w.heap.size w wr)
    (fun i _ => n - (intOf i).toNat)
  case atStart =>
    refine ⟨0, none, none, by omega, rfl, by unfold AdvC; simp, ?_, ⟨MapF.nil _ _ _, MapF.nil _ _ _⟩, (by repeat' (first | with_reducible exact Below.refl _ _ | with_reducible assumption | with_reducible refine Below.alloc ?_ ?_ _ | with_reducible refine Below.setCell ?_ ?_ _ | with_reducible refine Below.drew ?_ | with_reducible refine below_drewN ?_ _ | with_reducible refine Below.trans ?_ (Below.mono (by with_reducible assumption) ?_) | omega | (simp <;> omega)))⟩
    unfold AdvC
    refine ⟨by go_simp, by go_simp, by go_simp, by go_simp, by go_simp, by go_simp, by simp; omega⟩
  case round =>
    obtain ⟨k, v1, v2, hk, rfl, ⟨c0, c1, c2, f0, f1, f2, hz⟩, hR, hadv, hB⟩ := hrel
    by_cases hlt : k < n
    · have hzk : l[k]? = some (l[k]'(by omega)) := List.getElem?_eq_getElem (by omega)
      obtain ⟨b, off, rfl, hbW, hcA⟩ := hr.elem (fun _ => rfl) hlt hzk
      have hwz := hwf _ (List.getElem_mem (show k < l.length by omega))
      have hbd := nfold_bd th (l.take k)
      have hlen : (l.take k).length ≤ k := List.length_take_le _ _
      have hnext : nfold th (l.take (k + 1)) = nstep th (nfold th (l.take k)) (l[k]'(by omega)) := by
        rw [List.take_succ_eq_append_getElem (by omega), nfold_snoc]
      generalize nfold th (l.take k) = F at hnext hbd hadv
      have Hnext := hide hnext
      clear hnext
      generalize (l[k]'(by omega)) = z at hcA hzk hwz Hnext
      obtain ⟨t, d, at_⟩ := z
      have hx0 : wr.cell? ⟨b, off + k * 3, none⟩ = some (.int .i64 t) := (hB.cell (p := ⟨b, off + k * 3, none⟩) (Nat.lt_of_lt_of_le hbW hB0)).trans (hcA 0 _ rfl)
      have hx1 : wr.cell? ⟨b, off + k * 3 + 1, none⟩ = some (.bool d) := (hB.cell (p := ⟨b, off + k * 3 + 1, none⟩) (Nat.lt_of_lt_of_le hbW hB0)).trans (hcA 1 _ rfl)
      have hx2 : wr.cell? ⟨b, off + k * 3 + 2, none⟩ = some (.int .i64 at_) := (hB.cell (p := ⟨b, off + k * 3 + 2, none⟩) (Nat.lt_of_lt_of_le hbW hB0)).trans (hcA 2 _ rfl)
      clear hzk hcA hr hn hwf
      have hsf : 0 ≤ F.1 t ∧ F.1 t ≤ 1000 := by have := hbd.1 t; omega
      have hsh : 0 ≤ F.2 at_ ∧ F.2 at_ ≤ 1000 := by have := hbd.2 at_; omega
      clear hbd
      obtain ⟨r0, r1, r2, r3, r4, r5, r6⟩ := hR
      by_cases hv : 1 ≤ t ∧ t ≤ th
      · obtain ⟨hv1, hv2⟩ := hv
        cases d
        · go_wp2
          go_still_tail 11, (by kernel_rfl)
          change wpList _ _ _ _ _ wr.drew
          go_wp2_with (go_at_call 31; refine (fail_yes th t at_ v1 v2 k F.1 F.2 _ hv1 hv2 ht2 hwz.2 (hadv.below (by repeat' (first | with_reducible exact Below.refl _ _ | with_reducible assumption | with_reducible refine Below.alloc ?_ ?_ _ | with_reducible refine Below.setCell ?_ ?_ _ | with_reducible refine Below.drew ?_ | with_reducible refine below_drewN ?_ _ | with_reducible refine Below.trans ?_ (Below.mono (by with_reducible assumption) ?_) | omega | (simp <;> omega)))) (by omega) hsf.1 hsf.2 hsh.1 hsh.2).mono ?_; rintro e w2 ⟨v1', v2', rfl, had', hb2'⟩; have hb2 : Below wr.heap.size wr w2 := (Below.refl _ _).drew.trans hb2'; clear hb2'; obtain ⟨hc2, hf2⟩ := bcell hb2; have hy2 : w1.heap.size < w2.heap.size := (by have h := hb2.size; (try simp at h); omega); have hy3 : w.heap.size < w2.heap.size := (by have h := hb2.size; (try simp at h); omega))
          have hF : nfold th (l.take (k + 1)) = (upd F.1 t (F.1 t + 1), upd F.2 at_ (F.2 at_ + 1)) := by
            rw [Hnext.out]
            simp [nstep, hv1, hv2]
          have hC := AdvC.below ⟨c0, c1, c2, f0, f1, f2, hz⟩ hb2
          have hD := AdvC.below ⟨r0, r1, r2, r3, r4, r5, r6⟩ hb2
          refine ⟨⟨k + 1, v1', v2', by omega, by go_num, hC.set, hD.far (by omega) _ _ _, ?_, (by repeat' (first | with_reducible exact Below.refl _ _ | with_reducible assumption | with_reducible refine Below.alloc ?_ ?_ _ | with_reducible refine Below.setCell ?_ ?_ _ | with_reducible refine Below.drew ?_ | with_reducible refine below_drewN ?_ _ | with_reducible refine Below.trans ?_ (Below.mono (by with_reducible assumption) ?_) | omega | (simp <;> omega)))⟩, by simp [intOf]; omega⟩
          rw [hF]
          exact had'.set3 hC _ _ _
        · go_wp2
          go_still_tail 6, (by kernel_rfl)
          change wpList _ _ _ _ _ wr.drew
          go_wp2_with (go_at_call 32; refine (win_yes th t v1 v2 k F.1 F.2 _ hv1 hv2 ht2 (hadv.below (by repeat' (first | with_reducible exact Below.refl _ _ | with_reducible assumption | with_reducible refine Below.alloc ?_ ?_ _ | with_reducible refine Below.setCell ?_ ?_ _ | with_reducible refine Below.drew ?_ | with_reducible refine below_drewN ?_ _ | with_reducible refine Below.trans ?_ (Below.mono (by with_reducible assumption) ?_) | omega | (simp <;> omega))))).mono ?_; rintro e w2 ⟨v1', rfl, had', hb2'⟩; have hb2 : Below wr.heap.size wr w2 := (Below.refl _ _).drew.trans hb2'; clear hb2'; obtain ⟨hc2, hf2⟩ := bcell hb2; have hy2 : w1.heap.size < w2.heap.size := (by have h := hb2.size; (try simp at h); omega); have hy3 : w.heap.size < w2.heap.size := (by have h := hb2.size; (try simp at h); omega))
          have hF : nfold th (l.take (k + 1)) = (upd F.1 t 0, F.2) := by
            rw [Hnext.out]
            simp [nstep, hv1, hv2]
          have hC := AdvC.below ⟨c0, c1, c2, f0, f1, f2, hz⟩ hb2
          have hD := AdvC.below ⟨r0, r1, r2, r3, r4, r5, r6⟩ hb2
          refine ⟨⟨k + 1, v1', v2, by omega, by go_num, hC.set, hD.far (by omega) _ _ _, ?_, (by repeat' (first | with_reducible exact Below.refl _ _ | with_reducible assumption | with_reducible refine Below.alloc ?_ ?_ _ | with_reducible refine Below.setCell ?_ ?_ _ | with_reducible refine Below.drew ?_ | with_reducible refine below_drewN ?_ _ | with_reducible refine Below.trans ?_ (Below.mono (by with_reducible assumption) ?_) | omega | (simp <;> omega)))⟩, by simp [intOf]; omega⟩
          rw [hF]
          exact (had'.mono (Nat.le_succ k)).set3 hC _ _ _
      · have hv0 : t < 1 ∨ th < t := by omega
        have hv := hide hv0
        clear hv0
        cases d
        · go_wp2
          go_still_tail 11, (by kernel_rfl)
          change wpList _ _ _ _ _ wr.drew
          go_wp2_with (go_at_call 31; refine (fail_no th t at_ v1 v2 _ hv.out).mono ?_; rintro e w2 ⟨rfl, hb2'⟩; have hb2 : Below wr.heap.size wr w2 := (Below.refl _ _).drew.trans hb2'; clear hb2'; obtain ⟨hc2, hf2⟩ := bcell hb2; have hy2 : w1.heap.size < w2.heap.size := (by have h := hb2.size; (try simp at h); omega); have hy3 : w.heap.size < w2.heap.size := (by have h := hb2.size; (try simp at h); omega))
          have hF : nfold th (l.take (k + 1)) = F := by
            rw [Hnext.out]
            simp [nstep]
            have := hv.out
            omega
          have hC := AdvC.below ⟨c0, c1, c2, f0, f1, f2, hz⟩ hb2
          have hD := AdvC.below ⟨r0, r1, r2, r3, r4, r5, r6⟩ hb2
          refine ⟨⟨k + 1, v1, v2, by omega, by go_num, hC.set, hD.far (by omega) _ _ _, ?_, (by repeat' (first | with_reducible exact Below.refl _ _ | with_reducible assumption | with_reducible refine Below.alloc ?_ ?_ _ | with_reducible refine Below.setCell ?_ ?_ _ | with_reducible refine Below.drew ?_ | with_reducible refine below_drewN ?_ _ | with_reducible refine Below.trans ?_ (Below.mono (by with_reducible assumption) ?_) | omega | (simp <;> omega)))⟩, by simp [intOf]; omega⟩
          rw [hF]
          exact ((hadv.below hb2).mono (Nat.le_succ k)).set3 hC _ _ _
        · go_wp2
          go_still_tail 6, (by kernel_rfl)
          change wpList _ _ _ _ _ wr.drew
          go_wp2_with (go_at_call 32; refine (win_no th t v1 v2 _ hv.out).mono ?_; rintro e w2 ⟨rfl, hb2'⟩; have hb2 : Below wr.heap.size wr w2 := (Below.refl _ _).drew.trans hb2'; clear hb2'; obtain ⟨hc2, hf2⟩ := bcell hb2; have hy2 : w1.heap.size < w2.heap.size := (by have h := hb2.size; (try simp at h); omega); have hy3 : w.heap.size < w2.heap.size := (by have h := hb2.size; (try simp at h); omega))
          have hF : nfold th (l.take (k + 1)) = F := by
            rw [Hnext.out]
            simp [nstep]
            have := hv.out
            omega
          have hC := AdvC.below ⟨c0, c1, c2, f0, f1, f2, hz⟩ hb2
          have hD := AdvC.below ⟨r0, r1, r2, r3, r4, r5, r6⟩ hb2
          refine ⟨⟨k + 1, v1, v2, by omega, by go_num, hC.set, hD.far (by omega) _ _ _, ?_, (by repeat' (first | with_reducible exact Below.refl _ _ | with_reducible assumption | with_reducible refine Below.alloc ?_ ?_ _ | with_reducible refine Below.setCell ?_ ?_ _ | with_reducible refine Below.drew ?_ | with_reducible refine below_drewN ?_ _ | with_reducible refine Below.trans ?_ (Below.mono (by with_reducible assumption) ?_) | omega | (simp <;> omega)))⟩, by simp [intOf]; omega⟩
          rw [hF]
          exact ((hadv.below hb2).mono (Nat.le_succ k)).set3 hC _ _ _
    · have hkn : k = n := by omega
      subst hkn
      obtain ⟨r0, r1, r2, r3, r4, r5, r6⟩ := hR
      rw [← hn, List.take_length] at hadv
      have hadv' : AdvR wr v1 v2 k (nfold th l).1 (nfold th l).2 := by rw [hn] at hadv; exact hadv
      clear hadv hr hn
      go_wp2
      refine bodyPost_ret (v := .tuple #[.agg #[.int .i64 th, .map v1, .map v2], .int .i64 0]) (by simp [results, Try.results26, go_sem, r0, r1, r2]) rfl ⟨v1, v2, rfl, hadv'.set3 (B := w.heap.size) ⟨r0, r1, r2, r3, r4, r5, r6⟩ _ _ _, (by repeat' (first | with_reducible exact Below.refl _ _ | with_reducible assumption | with_reducible refine Below.alloc ?_ ?_ _ | with_reducible refine Below.setCell ?_ ?_ _ | with_reducible refine Below.drew ?_ | with_reducible refine below_drewN ?_ _ | with_reducible refine Below.trans ?_ (Below.mono (by with_reducible assumption) ?_) | omega | (simp <;> omega)))⟩
end Go.Proofs.Ytmpbaanlagmacaa
