/- Package desc: (Desc).check. -/
import Derived.Test.YtbomhhkknopdpaaGreatDoorD1
namespace Go.Proofs.YtbomhhkknopdpaaGreatDoor
set_option linter.unusedSimpArgs false
set_option linter.unusedVariables false
open Go.RowKit
theorem scanE_ok : ∀ (l pre : List En), scanE pre l = 0 → ∀ e ∈ l, 0 ≤ e.a ∧ e.a < 4096
  | [], _, _ => by simp
  | x :: l, pre, h => by
    unfold scanE at h
    by_cases h1 : wrongL x = 0
    · rw [if_neg (by simpa using h1)] at h
      by_cases h2 : pre.any (fun y => y.a == x.a) = true
      · rw [if_pos h2] at h
        cases h
      · rw [if_neg h2] at h
        intro e he
        rcases List.mem_cons.1 he with rfl | he
        · unfold wrongL at h1
          split at h1
          · cases h1
          · omega
        · exact scanE_ok l _ h e he
    · rw [if_pos h1] at h
      exact absurd h h1
theorem checkE_ok {es : List En} (h : checkE es = 0) : ∀ e ∈ es, 0 ≤ e.a ∧ e.a < 4096 := by
  unfold checkE at h
  split at h
  · cases h
  · split at h
    · cases h
    · exact scanE_ok es [] h
/-- The location of an owner's descriptor, or -1. -/
def placeL (T C B who : Int) : Int := if placeA T C B who < 0 then -1 else placeA T C B who
theorem place_any (T C B who : Int) (w : World) (hv : Valid T C B) (hs : Sizes w) (h0 : -1000 ≤ who) (h1 : who ≤ 1000) : Calls Tryz.prog 19 #[(.agg #[.int .i64 T, .int .i64 C, .int .i64 B]), .int .i64 who] w fun e w' => e = .returned (.tuple #[.int .i64 (placeL T C B who), .int .i64 (placeN T C B who)]) ∧ Below w.heap.size w w' := place_ok T C B who w hv hs h0 h1
/-- The error of a descriptor. -/
def checkD (T C B who seq st : Int) (es : List En) : Int :=
  if placeN T C B who = 0 then 3 else if seq < 1 ∨ 16777215 < seq then 3 else if st < 0 ∨ 3 < st then 2 else if checkE es ≠ 0 then checkE es else if sortedE es = false then 12 else if es.all (fun e => mayL T C B e.a) = false then 10 else if placeN T C B who < es.length then 15 else 0
set_option maxHeartbeats 4000000 in
set_option maxRecDepth 100000 in
theorem chk_p (T C B who seq st P E : Int) (SS : Bool) (A : Option Addr) (n cap : Nat) (es : List En) (w : World) (hv : Valid T C B) (hs : Sizes w) (h0 : -1000 ≤ who) (h1 : who ≤ 1000) (hr : Rd w w.heap.size 6 A n (es.flatMap ec)) (hl : es.length = n) (hn : n ≤ 1000) (hcap : n ≤ cap) (hc2 : cap ≤ maxLen) (hok : ∀ e ∈ es, e.ok)
    (hP : placeN T C B who = 0) (hE : checkE es = E) (hS : sortedE es = SS)  : Calls Tryz.prog 48 #[(.agg #[.int .i64 who, .int .i64 seq, .int .i64 st, .slice A n cap]), (.agg #[.int .i64 T, .int .i64 C, .int .i64 B])] w fun e w' => e = .returned (.int .i64 3) ∧ Below w.heap.size w w' := by
  have hp := hs.pos
  have Hr := hide hr
  have Hl := hide hl
  have Hok := hide hok
  have HP := hide hP
  have HE := hide hE
  have HS := hide hS
  clear hr hl hok hP hE hS
  go_enter Tryz.func48, Tryz.ntmps48
  go_wp2_with (first
    | (go_at_call 12; refine (check_ok T C B _ hv (hs.below (by repeat' (first | with_reducible exact Below.refl _ _ | with_reducible assumption | with_reducible refine Below.alloc ?_ ?_ _ | with_reducible refine Below.setCell ?_ ?_ _ | with_reducible refine Below.drew ?_ | with_reducible refine below_drewN ?_ _ | with_reducible refine Below.trans ?_ (Below.mono (by with_reducible assumption) ?_) | omega | (simp <;> omega))))).mono ?_; rintro e w1 ⟨rfl, hb1⟩; obtain ⟨hcc1, hff1⟩ := bcell hb1; have hs1 := hb1.size; (try simp at hs1); have hz1 : w.heap.size < w1.heap.size := (by omega); have hy1 : w.heap.size + 1 < w1.heap.size := (by omega); have hq1 : 0 < w1.heap.size := (by omega))
    | (go_at_call 19; refine (place_any T C B who _ hv (hs.below (by repeat' (first | with_reducible exact Below.refl _ _ | with_reducible assumption | with_reducible refine Below.alloc ?_ ?_ _ | with_reducible refine Below.setCell ?_ ?_ _ | with_reducible refine Below.drew ?_ | with_reducible refine below_drewN ?_ _ | with_reducible refine Below.trans ?_ (Below.mono (by with_reducible assumption) ?_) | omega | (simp <;> omega)))) h0 h1).mono ?_; rintro e w2 ⟨rfl, hb2⟩; rw [HP.out]; obtain ⟨hcc2, hff2⟩ := bcell hb2; have hs2 := hb2.size; (try simp at hs2); have hz2 : w.heap.size < w2.heap.size := (by omega); have hy2 : w.heap.size + 1 < w2.heap.size := (by omega); have hq2 : 0 < w2.heap.size := (by omega))
    | (go_at_call 74; refine (check_any A n cap es _ ((Hr.out.below (by repeat' (first | with_reducible exact Below.refl _ _ | with_reducible assumption | with_reducible refine Below.alloc ?_ ?_ _ | with_reducible refine Below.setCell ?_ ?_ _ | with_reducible refine Below.drew ?_ | with_reducible refine below_drewN ?_ _ | with_reducible refine Below.trans ?_ (Below.mono (by with_reducible assumption) ?_) | omega | (simp <;> omega)))).more (by omega)) Hl.out hn hcap hc2 Hok.out).mono ?_; rintro e w3 ⟨rfl, hb3⟩; rw [HE.out]; obtain ⟨hcc3, hff3⟩ := bcell hb3; have hs3 := hb3.size; (try simp at hs3); have hz3 : w.heap.size < w3.heap.size := (by omega); have hy3 : w.heap.size + 1 < w3.heap.size := (by omega); have hq3 : 0 < w3.heap.size := (by omega))
    | (go_at_call 75; refine (sorted_any A n cap es _ ((Hr.out.below (by repeat' (first | with_reducible exact Below.refl _ _ | with_reducible assumption | with_reducible refine Below.alloc ?_ ?_ _ | with_reducible refine Below.setCell ?_ ?_ _ | with_reducible refine Below.drew ?_ | with_reducible refine below_drewN ?_ _ | with_reducible refine Below.trans ?_ (Below.mono (by with_reducible assumption) ?_) | omega | (simp <;> omega)))).more (by omega)) Hl.out hn (checkE_ok HE.out)).mono ?_; rintro e w4 ⟨rfl, hb4⟩; rw [HS.out]; obtain ⟨hcc4, hff4⟩ := bcell hb4; have hs4 := hb4.size; (try simp at hs4); have hz4 : w.heap.size < w4.heap.size := (by omega); have hy4 : w.heap.size + 1 < w4.heap.size := (by omega); have hq4 : 0 < w4.heap.size := (by omega)))
  go_ret
  exact ⟨rfl, (by repeat' (first | with_reducible exact Below.refl _ _ | with_reducible assumption | with_reducible refine Below.alloc ?_ ?_ _ | with_reducible refine Below.setCell ?_ ?_ _ | with_reducible refine Below.drew ?_ | with_reducible refine below_drewN ?_ _ | with_reducible refine Below.trans ?_ (Below.mono (by with_reducible assumption) ?_) | omega | (simp <;> omega)))⟩
set_option maxHeartbeats 4000000 in
set_option maxRecDepth 100000 in
theorem chk_q1 (T C B who seq st P E : Int) (SS : Bool) (A : Option Addr) (n cap : Nat) (es : List En) (w : World) (hv : Valid T C B) (hs : Sizes w) (h0 : -1000 ≤ who) (h1 : who ≤ 1000) (hr : Rd w w.heap.size 6 A n (es.flatMap ec)) (hl : es.length = n) (hn : n ≤ 1000) (hcap : n ≤ cap) (hc2 : cap ≤ maxLen) (hok : ∀ e ∈ es, e.ok)
    (hP : placeN T C B who = P) (hE : checkE es = E) (hS : sortedE es = SS) (pb : (P == 0) = false) (q : seq < 1) : Calls Tryz.prog 48 #[(.agg #[.int .i64 who, .int .i64 seq, .int .i64 st, .slice A n cap]), (.agg #[.int .i64 T, .int .i64 C, .int .i64 B])] w fun e w' => e = .returned (.int .i64 3) ∧ Below w.heap.size w w' := by
  have hp := hs.pos
  have Hr := hide hr
  have Hl := hide hl
  have Hok := hide hok
  have HP := hide hP
  have HE := hide hE
  have HS := hide hS
  clear hr hl hok hP hE hS
  go_enter Tryz.func48, Tryz.ntmps48
  go_wp2_with (first
    | (go_at_call 12; refine (check_ok T C B _ hv (hs.below (by repeat' (first | with_reducible exact Below.refl _ _ | with_reducible assumption | with_reducible refine Below.alloc ?_ ?_ _ | with_reducible refine Below.setCell ?_ ?_ _ | with_reducible refine Below.drew ?_ | with_reducible refine below_drewN ?_ _ | with_reducible refine Below.trans ?_ (Below.mono (by with_reducible assumption) ?_) | omega | (simp <;> omega))))).mono ?_; rintro e w1 ⟨rfl, hb1⟩; obtain ⟨hcc1, hff1⟩ := bcell hb1; have hs1 := hb1.size; (try simp at hs1); have hz1 : w.heap.size < w1.heap.size := (by omega); have hy1 : w.heap.size + 1 < w1.heap.size := (by omega); have hq1 : 0 < w1.heap.size := (by omega))
    | (go_at_call 19; refine (place_any T C B who _ hv (hs.below (by repeat' (first | with_reducible exact Below.refl _ _ | with_reducible assumption | with_reducible refine Below.alloc ?_ ?_ _ | with_reducible refine Below.setCell ?_ ?_ _ | with_reducible refine Below.drew ?_ | with_reducible refine below_drewN ?_ _ | with_reducible refine Below.trans ?_ (Below.mono (by with_reducible assumption) ?_) | omega | (simp <;> omega)))) h0 h1).mono ?_; rintro e w2 ⟨rfl, hb2⟩; rw [HP.out]; obtain ⟨hcc2, hff2⟩ := bcell hb2; have hs2 := hb2.size; (try simp at hs2); have hz2 : w.heap.size < w2.heap.size := (by omega); have hy2 : w.heap.size + 1 < w2.heap.size := (by omega); have hq2 : 0 < w2.heap.size := (by omega))
    | (go_at_call 74; refine (check_any A n cap es _ ((Hr.out.below (by repeat' (first | with_reducible exact Below.refl _ _ | with_reducible assumption | with_reducible refine Below.alloc ?_ ?_ _ | with_reducible refine Below.setCell ?_ ?_ _ | with_reducible refine Below.drew ?_ | with_reducible refine below_drewN ?_ _ | with_reducible refine Below.trans ?_ (Below.mono (by with_reducible assumption) ?_) | omega | (simp <;> omega)))).more (by omega)) Hl.out hn hcap hc2 Hok.out).mono ?_; rintro e w3 ⟨rfl, hb3⟩; rw [HE.out]; obtain ⟨hcc3, hff3⟩ := bcell hb3; have hs3 := hb3.size; (try simp at hs3); have hz3 : w.heap.size < w3.heap.size := (by omega); have hy3 : w.heap.size + 1 < w3.heap.size := (by omega); have hq3 : 0 < w3.heap.size := (by omega))
    | (go_at_call 75; refine (sorted_any A n cap es _ ((Hr.out.below (by repeat' (first | with_reducible exact Below.refl _ _ | with_reducible assumption | with_reducible refine Below.alloc ?_ ?_ _ | with_reducible refine Below.setCell ?_ ?_ _ | with_reducible refine Below.drew ?_ | with_reducible refine below_drewN ?_ _ | with_reducible refine Below.trans ?_ (Below.mono (by with_reducible assumption) ?_) | omega | (simp <;> omega)))).more (by omega)) Hl.out hn (checkE_ok HE.out)).mono ?_; rintro e w4 ⟨rfl, hb4⟩; rw [HS.out]; obtain ⟨hcc4, hff4⟩ := bcell hb4; have hs4 := hb4.size; (try simp at hs4); have hz4 : w.heap.size < w4.heap.size := (by omega); have hy4 : w.heap.size + 1 < w4.heap.size := (by omega); have hq4 : 0 < w4.heap.size := (by omega)))
  go_ret
  exact ⟨rfl, (by repeat' (first | with_reducible exact Below.refl _ _ | with_reducible assumption | with_reducible refine Below.alloc ?_ ?_ _ | with_reducible refine Below.setCell ?_ ?_ _ | with_reducible refine Below.drew ?_ | with_reducible refine below_drewN ?_ _ | with_reducible refine Below.trans ?_ (Below.mono (by with_reducible assumption) ?_) | omega | (simp <;> omega)))⟩
set_option maxHeartbeats 4000000 in
set_option maxRecDepth 100000 in
theorem chk_q2 (T C B who seq st P E : Int) (SS : Bool) (A : Option Addr) (n cap : Nat) (es : List En) (w : World) (hv : Valid T C B) (hs : Sizes w) (h0 : -1000 ≤ who) (h1 : who ≤ 1000) (hr : Rd w w.heap.size 6 A n (es.flatMap ec)) (hl : es.length = n) (hn : n ≤ 1000) (hcap : n ≤ cap) (hc2 : cap ≤ maxLen) (hok : ∀ e ∈ es, e.ok)
    (hP : placeN T C B who = P) (hE : checkE es = E) (hS : sortedE es = SS) (pb : (P == 0) = false) (q : 16777215 < seq) : Calls Tryz.prog 48 #[(.agg #[.int .i64 who, .int .i64 seq, .int .i64 st, .slice A n cap]), (.agg #[.int .i64 T, .int .i64 C, .int .i64 B])] w fun e w' => e = .returned (.int .i64 3) ∧ Below w.heap.size w w' := by
  have hp := hs.pos
  have Hr := hide hr
  have Hl := hide hl
  have Hok := hide hok
  have HP := hide hP
  have HE := hide hE
  have HS := hide hS
  clear hr hl hok hP hE hS
  have q0 : ¬ seq < 1 := by omega
  go_enter Tryz.func48, Tryz.ntmps48
  go_wp2_with (first
    | (go_at_call 12; refine (check_ok T C B _ hv (hs.below (by repeat' (first | with_reducible exact Below.refl _ _ | with_reducible assumption | with_reducible refine Below.alloc ?_ ?_ _ | with_reducible refine Below.setCell ?_ ?_ _ | with_reducible refine Below.drew ?_ | with_reducible refine below_drewN ?_ _ | with_reducible refine Below.trans ?_ (Below.mono (by with_reducible assumption) ?_) | omega | (simp <;> omega))))).mono ?_; rintro e w1 ⟨rfl, hb1⟩; obtain ⟨hcc1, hff1⟩ := bcell hb1; have hs1 := hb1.size; (try simp at hs1); have hz1 : w.heap.size < w1.heap.size := (by omega); have hy1 : w.heap.size + 1 < w1.heap.size := (by omega); have hq1 : 0 < w1.heap.size := (by omega))
    | (go_at_call 19; refine (place_any T C B who _ hv (hs.below (by repeat' (first | with_reducible exact Below.refl _ _ | with_reducible assumption | with_reducible refine Below.alloc ?_ ?_ _ | with_reducible refine Below.setCell ?_ ?_ _ | with_reducible refine Below.drew ?_ | with_reducible refine below_drewN ?_ _ | with_reducible refine Below.trans ?_ (Below.mono (by with_reducible assumption) ?_) | omega | (simp <;> omega)))) h0 h1).mono ?_; rintro e w2 ⟨rfl, hb2⟩; rw [HP.out]; obtain ⟨hcc2, hff2⟩ := bcell hb2; have hs2 := hb2.size; (try simp at hs2); have hz2 : w.heap.size < w2.heap.size := (by omega); have hy2 : w.heap.size + 1 < w2.heap.size := (by omega); have hq2 : 0 < w2.heap.size := (by omega))
    | (go_at_call 74; refine (check_any A n cap es _ ((Hr.out.below (by repeat' (first | with_reducible exact Below.refl _ _ | with_reducible assumption | with_reducible refine Below.alloc ?_ ?_ _ | with_reducible refine Below.setCell ?_ ?_ _ | with_reducible refine Below.drew ?_ | with_reducible refine below_drewN ?_ _ | with_reducible refine Below.trans ?_ (Below.mono (by with_reducible assumption) ?_) | omega | (simp <;> omega)))).more (by omega)) Hl.out hn hcap hc2 Hok.out).mono ?_; rintro e w3 ⟨rfl, hb3⟩; rw [HE.out]; obtain ⟨hcc3, hff3⟩ := bcell hb3; have hs3 := hb3.size; (try simp at hs3); have hz3 : w.heap.size < w3.heap.size := (by omega); have hy3 : w.heap.size + 1 < w3.heap.size := (by omega); have hq3 : 0 < w3.heap.size := (by omega))
    | (go_at_call 75; refine (sorted_any A n cap es _ ((Hr.out.below (by repeat' (first | with_reducible exact Below.refl _ _ | with_reducible assumption | with_reducible refine Below.alloc ?_ ?_ _ | with_reducible refine Below.setCell ?_ ?_ _ | with_reducible refine Below.drew ?_ | with_reducible refine below_drewN ?_ _ | with_reducible refine Below.trans ?_ (Below.mono (by with_reducible assumption) ?_) | omega | (simp <;> omega)))).more (by omega)) Hl.out hn (checkE_ok HE.out)).mono ?_; rintro e w4 ⟨rfl, hb4⟩; rw [HS.out]; obtain ⟨hcc4, hff4⟩ := bcell hb4; have hs4 := hb4.size; (try simp at hs4); have hz4 : w.heap.size < w4.heap.size := (by omega); have hy4 : w.heap.size + 1 < w4.heap.size := (by omega); have hq4 : 0 < w4.heap.size := (by omega)))
  go_ret
  exact ⟨rfl, (by repeat' (first | with_reducible exact Below.refl _ _ | with_reducible assumption | with_reducible refine Below.alloc ?_ ?_ _ | with_reducible refine Below.setCell ?_ ?_ _ | with_reducible refine Below.drew ?_ | with_reducible refine below_drewN ?_ _ | with_reducible refine Below.trans ?_ (Below.mono (by with_reducible assumption) ?_) | omega | (simp <;> omega)))⟩
set_option maxHeartbeats 4000000 in
set_option maxRecDepth 100000 in
theorem chk_s1 (T C B who seq st P E : Int) (SS : Bool) (A : Option Addr) (n cap : Nat) (es : List En) (w : World) (hv : Valid T C B) (hs : Sizes w) (h0 : -1000 ≤ who) (h1 : who ≤ 1000) (hr : Rd w w.heap.size 6 A n (es.flatMap ec)) (hl : es.length = n) (hn : n ≤ 1000) (hcap : n ≤ cap) (hc2 : cap ≤ maxLen) (hok : ∀ e ∈ es, e.ok)
    (hP : placeN T C B who = P) (hE : checkE es = E) (hS : sortedE es = SS) (pb : (P == 0) = false) (qa : 1 ≤ seq) (qb : seq ≤ 16777215) (q : st < 0) : Calls Tryz.prog 48 #[(.agg #[.int .i64 who, .int .i64 seq, .int .i64 st, .slice A n cap]), (.agg #[.int .i64 T, .int .i64 C, .int .i64 B])] w fun e w' => e = .returned (.int .i64 2) ∧ Below w.heap.size w w' := by
  have hp := hs.pos
  have Hr := hide hr
  have Hl := hide hl
  have Hok := hide hok
  have HP := hide hP
  have HE := hide hE
  have HS := hide hS
  clear hr hl hok hP hE hS
  go_enter Tryz.func48, Tryz.ntmps48
  go_wp2_with (first
    | (go_at_call 12; refine (check_ok T C B _ hv (hs.below (by repeat' (first | with_reducible exact Below.refl _ _ | with_reducible assumption | with_reducible refine Below.alloc ?_ ?_ _ | with_reducible refine Below.setCell ?_ ?_ _ | with_reducible refine Below.drew ?_ | with_reducible refine below_drewN ?_ _ | with_reducible refine Below.trans ?_ (Below.mono (by with_reducible assumption) ?_) | omega | (simp <;> omega))))).mono ?_; rintro e w1 ⟨rfl, hb1⟩; obtain ⟨hcc1, hff1⟩ := bcell hb1; have hs1 := hb1.size; (try simp at hs1); have hz1 : w.heap.size < w1.heap.size := (by omega); have hy1 : w.heap.size + 1 < w1.heap.size := (by omega); have hq1 : 0 < w1.heap.size := (by omega))
    | (go_at_call 19; refine (place_any T C B who _ hv (hs.below (by repeat' (first | with_reducible exact Below.refl _ _ | with_reducible assumption | with_reducible refine Below.alloc ?_ ?_ _ | with_reducible refine Below.setCell ?_ ?_ _ | with_reducible refine Below.drew ?_ | with_reducible refine below_drewN ?_ _ | with_reducible refine Below.trans ?_ (Below.mono (by with_reducible assumption) ?_) | omega | (simp <;> omega)))) h0 h1).mono ?_; rintro e w2 ⟨rfl, hb2⟩; rw [HP.out]; obtain ⟨hcc2, hff2⟩ := bcell hb2; have hs2 := hb2.size; (try simp at hs2); have hz2 : w.heap.size < w2.heap.size := (by omega); have hy2 : w.heap.size + 1 < w2.heap.size := (by omega); have hq2 : 0 < w2.heap.size := (by omega))
    | (go_at_call 74; refine (check_any A n cap es _ ((Hr.out.below (by repeat' (first | with_reducible exact Below.refl _ _ | with_reducible assumption | with_reducible refine Below.alloc ?_ ?_ _ | with_reducible refine Below.setCell ?_ ?_ _ | with_reducible refine Below.drew ?_ | with_reducible refine below_drewN ?_ _ | with_reducible refine Below.trans ?_ (Below.mono (by with_reducible assumption) ?_) | omega | (simp <;> omega)))).more (by omega)) Hl.out hn hcap hc2 Hok.out).mono ?_; rintro e w3 ⟨rfl, hb3⟩; rw [HE.out]; obtain ⟨hcc3, hff3⟩ := bcell hb3; have hs3 := hb3.size; (try simp at hs3); have hz3 : w.heap.size < w3.heap.size := (by omega); have hy3 : w.heap.size + 1 < w3.heap.size := (by omega); have hq3 : 0 < w3.heap.size := (by omega))
    | (go_at_call 75; refine (sorted_any A n cap es _ ((Hr.out.below (by repeat' (first | with_reducible exact Below.refl _ _ | with_reducible assumption | with_reducible refine Below.alloc ?_ ?_ _ | with_reducible refine Below.setCell ?_ ?_ _ | with_reducible refine Below.drew ?_ | with_reducible refine below_drewN ?_ _ | with_reducible refine Below.trans ?_ (Below.mono (by with_reducible assumption) ?_) | omega | (simp <;> omega)))).more (by omega)) Hl.out hn (checkE_ok HE.out)).mono ?_; rintro e w4 ⟨rfl, hb4⟩; rw [HS.out]; obtain ⟨hcc4, hff4⟩ := bcell hb4; have hs4 := hb4.size; (try simp at hs4); have hz4 : w.heap.size < w4.heap.size := (by omega); have hy4 : w.heap.size + 1 < w4.heap.size := (by omega); have hq4 : 0 < w4.heap.size := (by omega)))
  go_ret
  exact ⟨rfl, (by repeat' (first | with_reducible exact Below.refl _ _ | with_reducible assumption | with_reducible refine Below.alloc ?_ ?_ _ | with_reducible refine Below.setCell ?_ ?_ _ | with_reducible refine Below.drew ?_ | with_reducible refine below_drewN ?_ _ | with_reducible refine Below.trans ?_ (Below.mono (by with_reducible assumption) ?_) | omega | (simp <;> omega)))⟩
set_option maxHeartbeats 4000000 in
set_option maxRecDepth 100000 in
theorem chk_s2 (T C B who seq st P E : Int) (SS : Bool) (A : Option Addr) (n cap : Nat) (es : List En) (w : World) (hv : Valid T C B) (hs : Sizes w) (h0 : -1000 ≤ who) (h1 : who ≤ 1000) (hr : Rd w w.heap.size 6 A n (es.flatMap ec)) (hl : es.length = n) (hn : n ≤ 1000) (hcap : n ≤ cap) (hc2 : cap ≤ maxLen) (hok : ∀ e ∈ es, e.ok)
    (hP : placeN T C B who = P) (hE : checkE es = E) (hS : sortedE es = SS) (pb : (P == 0) = false) (qa : 1 ≤ seq) (qb : seq ≤ 16777215) (q : 3 < st) : Calls Tryz.prog 48 #[(.agg #[.int .i64 who, .int .i64 seq, .int .i64 st, .slice A n cap]), (.agg #[.int .i64 T, .int .i64 C, .int .i64 B])] w fun e w' => e = .returned (.int .i64 2) ∧ Below w.heap.size w w' := by
  have hp := hs.pos
  have Hr := hide hr
  have Hl := hide hl
  have Hok := hide hok
  have HP := hide hP
  have HE := hide hE
  have HS := hide hS
  clear hr hl hok hP hE hS
  have q0 : ¬ st < 0 := by omega
  go_enter Tryz.func48, Tryz.ntmps48
  go_wp2_with (first
    | (go_at_call 12; refine (check_ok T C B _ hv (hs.below (by repeat' (first | with_reducible exact Below.refl _ _ | with_reducible assumption | with_reducible refine Below.alloc ?_ ?_ _ | with_reducible refine Below.setCell ?_ ?_ _ | with_reducible refine Below.drew ?_ | with_reducible refine below_drewN ?_ _ | with_reducible refine Below.trans ?_ (Below.mono (by with_reducible assumption) ?_) | omega | (simp <;> omega))))).mono ?_; rintro e w1 ⟨rfl, hb1⟩; obtain ⟨hcc1, hff1⟩ := bcell hb1; have hs1 := hb1.size; (try simp at hs1); have hz1 : w.heap.size < w1.heap.size := (by omega); have hy1 : w.heap.size + 1 < w1.heap.size := (by omega); have hq1 : 0 < w1.heap.size := (by omega))
    | (go_at_call 19; refine (place_any T C B who _ hv (hs.below (by repeat' (first | with_reducible exact Below.refl _ _ | with_reducible assumption | with_reducible refine Below.alloc ?_ ?_ _ | with_reducible refine Below.setCell ?_ ?_ _ | with_reducible refine Below.drew ?_ | with_reducible refine below_drewN ?_ _ | with_reducible refine Below.trans ?_ (Below.mono (by with_reducible assumption) ?_) | omega | (simp <;> omega)))) h0 h1).mono ?_; rintro e w2 ⟨rfl, hb2⟩; rw [HP.out]; obtain ⟨hcc2, hff2⟩ := bcell hb2; have hs2 := hb2.size; (try simp at hs2); have hz2 : w.heap.size < w2.heap.size := (by omega); have hy2 : w.heap.size + 1 < w2.heap.size := (by omega); have hq2 : 0 < w2.heap.size := (by omega))
    | (go_at_call 74; refine (check_any A n cap es _ ((Hr.out.below (by repeat' (first | with_reducible exact Below.refl _ _ | with_reducible assumption | with_reducible refine Below.alloc ?_ ?_ _ | with_reducible refine Below.setCell ?_ ?_ _ | with_reducible refine Below.drew ?_ | with_reducible refine below_drewN ?_ _ | with_reducible refine Below.trans ?_ (Below.mono (by with_reducible assumption) ?_) | omega | (simp <;> omega)))).more (by omega)) Hl.out hn hcap hc2 Hok.out).mono ?_; rintro e w3 ⟨rfl, hb3⟩; rw [HE.out]; obtain ⟨hcc3, hff3⟩ := bcell hb3; have hs3 := hb3.size; (try simp at hs3); have hz3 : w.heap.size < w3.heap.size := (by omega); have hy3 : w.heap.size + 1 < w3.heap.size := (by omega); have hq3 : 0 < w3.heap.size := (by omega))
    | (go_at_call 75; refine (sorted_any A n cap es _ ((Hr.out.below (by repeat' (first | with_reducible exact Below.refl _ _ | with_reducible assumption | with_reducible refine Below.alloc ?_ ?_ _ | with_reducible refine Below.setCell ?_ ?_ _ | with_reducible refine Below.drew ?_ | with_reducible refine below_drewN ?_ _ | with_reducible refine Below.trans ?_ (Below.mono (by with_reducible assumption) ?_) | omega | (simp <;> omega)))).more (by omega)) Hl.out hn (checkE_ok HE.out)).mono ?_; rintro e w4 ⟨rfl, hb4⟩; rw [HS.out]; obtain ⟨hcc4, hff4⟩ := bcell hb4; have hs4 := hb4.size; (try simp at hs4); have hz4 : w.heap.size < w4.heap.size := (by omega); have hy4 : w.heap.size + 1 < w4.heap.size := (by omega); have hq4 : 0 < w4.heap.size := (by omega)))
  go_ret
  exact ⟨rfl, (by repeat' (first | with_reducible exact Below.refl _ _ | with_reducible assumption | with_reducible refine Below.alloc ?_ ?_ _ | with_reducible refine Below.setCell ?_ ?_ _ | with_reducible refine Below.drew ?_ | with_reducible refine below_drewN ?_ _ | with_reducible refine Below.trans ?_ (Below.mono (by with_reducible assumption) ?_) | omega | (simp <;> omega)))⟩
set_option maxHeartbeats 4000000 in
set_option maxRecDepth 100000 in
theorem chk_e (T C B who seq st P E : Int) (SS : Bool) (A : Option Addr) (n cap : Nat) (es : List En) (w : World) (hv : Valid T C B) (hs : Sizes w) (h0 : -1000 ≤ who) (h1 : who ≤ 1000) (hr : Rd w w.heap.size 6 A n (es.flatMap ec)) (hl : es.length = n) (hn : n ≤ 1000) (hcap : n ≤ cap) (hc2 : cap ≤ maxLen) (hok : ∀ e ∈ es, e.ok)
    (hP : placeN T C B who = P) (hE : checkE es = E) (hS : sortedE es = SS) (pb : (P == 0) = false) (qa : 1 ≤ seq) (qb : seq ≤ 16777215) (sa : 0 ≤ st) (sb : st ≤ 3) (q : (E != 0) = true) : Calls Tryz.prog 48 #[(.agg #[.int .i64 who, .int .i64 seq, .int .i64 st, .slice A n cap]), (.agg #[.int .i64 T, .int .i64 C, .int .i64 B])] w fun e w' => e = .returned (.int .i64 E) ∧ Below w.heap.size w w' := by
  have hp := hs.pos
  have Hr := hide hr
  have Hl := hide hl
  have Hok := hide hok
  have HP := hide hP
  have HE := hide hE
  have HS := hide hS
  clear hr hl hok hP hE hS
  go_enter Tryz.func48, Tryz.ntmps48
  go_wp2_with (first
    | (go_at_call 12; refine (check_ok T C B _ hv (hs.below (by repeat' (first | with_reducible exact Below.refl _ _ | with_reducible assumption | with_reducible refine Below.alloc ?_ ?_ _ | with_reducible refine Below.setCell ?_ ?_ _ | with_reducible refine Below.drew ?_ | with_reducible refine below_drewN ?_ _ | with_reducible refine Below.trans ?_ (Below.mono (by with_reducible assumption) ?_) | omega | (simp <;> omega))))).mono ?_; rintro e w1 ⟨rfl, hb1⟩; obtain ⟨hcc1, hff1⟩ := bcell hb1; have hs1 := hb1.size; (try simp at hs1); have hz1 : w.heap.size < w1.heap.size := (by omega); have hy1 : w.heap.size + 1 < w1.heap.size := (by omega); have hq1 : 0 < w1.heap.size := (by omega))
    | (go_at_call 19; refine (place_any T C B who _ hv (hs.below (by repeat' (first | with_reducible exact Below.refl _ _ | with_reducible assumption | with_reducible refine Below.alloc ?_ ?_ _ | with_reducible refine Below.setCell ?_ ?_ _ | with_reducible refine Below.drew ?_ | with_reducible refine below_drewN ?_ _ | with_reducible refine Below.trans ?_ (Below.mono (by with_reducible assumption) ?_) | omega | (simp <;> omega)))) h0 h1).mono ?_; rintro e w2 ⟨rfl, hb2⟩; rw [HP.out]; obtain ⟨hcc2, hff2⟩ := bcell hb2; have hs2 := hb2.size; (try simp at hs2); have hz2 : w.heap.size < w2.heap.size := (by omega); have hy2 : w.heap.size + 1 < w2.heap.size := (by omega); have hq2 : 0 < w2.heap.size := (by omega))
    | (go_at_call 74; refine (check_any A n cap es _ ((Hr.out.below (by repeat' (first | with_reducible exact Below.refl _ _ | with_reducible assumption | with_reducible refine Below.alloc ?_ ?_ _ | with_reducible refine Below.setCell ?_ ?_ _ | with_reducible refine Below.drew ?_ | with_reducible refine below_drewN ?_ _ | with_reducible refine Below.trans ?_ (Below.mono (by with_reducible assumption) ?_) | omega | (simp <;> omega)))).more (by omega)) Hl.out hn hcap hc2 Hok.out).mono ?_; rintro e w3 ⟨rfl, hb3⟩; rw [HE.out]; obtain ⟨hcc3, hff3⟩ := bcell hb3; have hs3 := hb3.size; (try simp at hs3); have hz3 : w.heap.size < w3.heap.size := (by omega); have hy3 : w.heap.size + 1 < w3.heap.size := (by omega); have hq3 : 0 < w3.heap.size := (by omega))
    | (go_at_call 75; refine (sorted_any A n cap es _ ((Hr.out.below (by repeat' (first | with_reducible exact Below.refl _ _ | with_reducible assumption | with_reducible refine Below.alloc ?_ ?_ _ | with_reducible refine Below.setCell ?_ ?_ _ | with_reducible refine Below.drew ?_ | with_reducible refine below_drewN ?_ _ | with_reducible refine Below.trans ?_ (Below.mono (by with_reducible assumption) ?_) | omega | (simp <;> omega)))).more (by omega)) Hl.out hn (checkE_ok HE.out)).mono ?_; rintro e w4 ⟨rfl, hb4⟩; rw [HS.out]; obtain ⟨hcc4, hff4⟩ := bcell hb4; have hs4 := hb4.size; (try simp at hs4); have hz4 : w.heap.size < w4.heap.size := (by omega); have hy4 : w.heap.size + 1 < w4.heap.size := (by omega); have hq4 : 0 < w4.heap.size := (by omega)))
  go_ret
  exact ⟨rfl, (by repeat' (first | with_reducible exact Below.refl _ _ | with_reducible assumption | with_reducible refine Below.alloc ?_ ?_ _ | with_reducible refine Below.setCell ?_ ?_ _ | with_reducible refine Below.drew ?_ | with_reducible refine below_drewN ?_ _ | with_reducible refine Below.trans ?_ (Below.mono (by with_reducible assumption) ?_) | omega | (simp <;> omega)))⟩
set_option maxHeartbeats 4000000 in
set_option maxRecDepth 100000 in
theorem chk_o (T C B who seq st P E : Int) (SS : Bool) (A : Option Addr) (n cap : Nat) (es : List En) (w : World) (hv : Valid T C B) (hs : Sizes w) (h0 : -1000 ≤ who) (h1 : who ≤ 1000) (hr : Rd w w.heap.size 6 A n (es.flatMap ec)) (hl : es.length = n) (hn : n ≤ 1000) (hcap : n ≤ cap) (hc2 : cap ≤ maxLen) (hok : ∀ e ∈ es, e.ok)
    (hP : placeN T C B who = P) (hE : checkE es = 0) (hS : sortedE es = false) (pb : (P == 0) = false) (qa : 1 ≤ seq) (qb : seq ≤ 16777215) (sa : 0 ≤ st) (sb : st ≤ 3)  : Calls Tryz.prog 48 #[(.agg #[.int .i64 who, .int .i64 seq, .int .i64 st, .slice A n cap]), (.agg #[.int .i64 T, .int .i64 C, .int .i64 B])] w fun e w' => e = .returned (.int .i64 12) ∧ Below w.heap.size w w' := by
  have hp := hs.pos
  have Hr := hide hr
  have Hl := hide hl
  have Hok := hide hok
  have HP := hide hP
  have HE := hide hE
  have HS := hide hS
  clear hr hl hok hP hE hS
  go_enter Tryz.func48, Tryz.ntmps48
  go_wp2_with (first
    | (go_at_call 12; refine (check_ok T C B _ hv (hs.below (by repeat' (first | with_reducible exact Below.refl _ _ | with_reducible assumption | with_reducible refine Below.alloc ?_ ?_ _ | with_reducible refine Below.setCell ?_ ?_ _ | with_reducible refine Below.drew ?_ | with_reducible refine below_drewN ?_ _ | with_reducible refine Below.trans ?_ (Below.mono (by with_reducible assumption) ?_) | omega | (simp <;> omega))))).mono ?_; rintro e w1 ⟨rfl, hb1⟩; obtain ⟨hcc1, hff1⟩ := bcell hb1; have hs1 := hb1.size; (try simp at hs1); have hz1 : w.heap.size < w1.heap.size := (by omega); have hy1 : w.heap.size + 1 < w1.heap.size := (by omega); have hq1 : 0 < w1.heap.size := (by omega))
    | (go_at_call 19; refine (place_any T C B who _ hv (hs.below (by repeat' (first | with_reducible exact Below.refl _ _ | with_reducible assumption | with_reducible refine Below.alloc ?_ ?_ _ | with_reducible refine Below.setCell ?_ ?_ _ | with_reducible refine Below.drew ?_ | with_reducible refine below_drewN ?_ _ | with_reducible refine Below.trans ?_ (Below.mono (by with_reducible assumption) ?_) | omega | (simp <;> omega)))) h0 h1).mono ?_; rintro e w2 ⟨rfl, hb2⟩; rw [HP.out]; obtain ⟨hcc2, hff2⟩ := bcell hb2; have hs2 := hb2.size; (try simp at hs2); have hz2 : w.heap.size < w2.heap.size := (by omega); have hy2 : w.heap.size + 1 < w2.heap.size := (by omega); have hq2 : 0 < w2.heap.size := (by omega))
    | (go_at_call 74; refine (check_any A n cap es _ ((Hr.out.below (by repeat' (first | with_reducible exact Below.refl _ _ | with_reducible assumption | with_reducible refine Below.alloc ?_ ?_ _ | with_reducible refine Below.setCell ?_ ?_ _ | with_reducible refine Below.drew ?_ | with_reducible refine below_drewN ?_ _ | with_reducible refine Below.trans ?_ (Below.mono (by with_reducible assumption) ?_) | omega | (simp <;> omega)))).more (by omega)) Hl.out hn hcap hc2 Hok.out).mono ?_; rintro e w3 ⟨rfl, hb3⟩; rw [HE.out]; obtain ⟨hcc3, hff3⟩ := bcell hb3; have hs3 := hb3.size; (try simp at hs3); have hz3 : w.heap.size < w3.heap.size := (by omega); have hy3 : w.heap.size + 1 < w3.heap.size := (by omega); have hq3 : 0 < w3.heap.size := (by omega))
    | (go_at_call 75; refine (sorted_any A n cap es _ ((Hr.out.below (by repeat' (first | with_reducible exact Below.refl _ _ | with_reducible assumption | with_reducible refine Below.alloc ?_ ?_ _ | with_reducible refine Below.setCell ?_ ?_ _ | with_reducible refine Below.drew ?_ | with_reducible refine below_drewN ?_ _ | with_reducible refine Below.trans ?_ (Below.mono (by with_reducible assumption) ?_) | omega | (simp <;> omega)))).more (by omega)) Hl.out hn (checkE_ok HE.out)).mono ?_; rintro e w4 ⟨rfl, hb4⟩; rw [HS.out]; obtain ⟨hcc4, hff4⟩ := bcell hb4; have hs4 := hb4.size; (try simp at hs4); have hz4 : w.heap.size < w4.heap.size := (by omega); have hy4 : w.heap.size + 1 < w4.heap.size := (by omega); have hq4 : 0 < w4.heap.size := (by omega)))
  go_ret
  exact ⟨rfl, (by repeat' (first | with_reducible exact Below.refl _ _ | with_reducible assumption | with_reducible refine Below.alloc ?_ ?_ _ | with_reducible refine Below.setCell ?_ ?_ _ | with_reducible refine Below.drew ?_ | with_reducible refine below_drewN ?_ _ | with_reducible refine Below.trans ?_ (Below.mono (by with_reducible assumption) ?_) | omega | (simp <;> omega)))⟩
set_option maxHeartbeats 4000000 in
set_option maxRecDepth 100000 in
theorem chk_m (T C B who seq st P E : Int) (SS : Bool) (A : Option Addr) (n cap : Nat) (es : List En) (w : World) (hv : Valid T C B) (hs : Sizes w) (h0 : -1000 ≤ who) (h1 : who ≤ 1000) (hr : Rd w w.heap.size 6 A n (es.flatMap ec)) (hl : es.length = n) (hn : n ≤ 1000) (hcap : n ≤ cap) (hc2 : cap ≤ maxLen) (hok : ∀ e ∈ es, e.ok)
    (hP : placeN T C B who = P) (hE : checkE es = 0) (hS : sortedE es = true) (pb : (P == 0) = false) (qa : 1 ≤ seq) (qb : seq ≤ 16777215) (sa : 0 ≤ st) (sb : st ≤ 3) (R : Int) (hR : R = if es.all (fun e => mayL T C B e.a) = false then 10 else if P < n then 15 else 0) : Calls Tryz.prog 48 #[(.agg #[.int .i64 who, .int .i64 seq, .int .i64 st, .slice A n cap]), (.agg #[.int .i64 T, .int .i64 C, .int .i64 B])] w fun e w' => e = .returned (.int .i64 R) ∧ Below w.heap.size w w' := by
  have hp := hs.pos
  have Hr := hide hr
  have Hl := hide hl
  have Hok := hide hok
  have HP := hide hP
  have HE := hide hE
  have HS := hide hS
  clear hr hl hok hP hE hS
  have HR := hide hR
  clear hR
  go_enter Tryz.func48, Tryz.ntmps48
  go_wp2_with (first
    | (go_at_call 12; refine (check_ok T C B _ hv (hs.below (by repeat' (first | with_reducible exact Below.refl _ _ | with_reducible assumption | with_reducible refine Below.alloc ?_ ?_ _ | with_reducible refine Below.setCell ?_ ?_ _ | with_reducible refine Below.drew ?_ | with_reducible refine below_drewN ?_ _ | with_reducible refine Below.trans ?_ (Below.mono (by with_reducible assumption) ?_) | omega | (simp <;> omega))))).mono ?_; rintro e w1 ⟨rfl, hb1⟩; obtain ⟨hcc1, hff1⟩ := bcell hb1; have hs1 := hb1.size; (try simp at hs1); have hz1 : w.heap.size < w1.heap.size := (by omega); have hy1 : w.heap.size + 1 < w1.heap.size := (by omega); have hq1 : 0 < w1.heap.size := (by omega))
    | (go_at_call 19; refine (place_any T C B who _ hv (hs.below (by repeat' (first | with_reducible exact Below.refl _ _ | with_reducible assumption | with_reducible refine Below.alloc ?_ ?_ _ | with_reducible refine Below.setCell ?_ ?_ _ | with_reducible refine Below.drew ?_ | with_reducible refine below_drewN ?_ _ | with_reducible refine Below.trans ?_ (Below.mono (by with_reducible assumption) ?_) | omega | (simp <;> omega)))) h0 h1).mono ?_; rintro e w2 ⟨rfl, hb2⟩; rw [HP.out]; obtain ⟨hcc2, hff2⟩ := bcell hb2; have hs2 := hb2.size; (try simp at hs2); have hz2 : w.heap.size < w2.heap.size := (by omega); have hy2 : w.heap.size + 1 < w2.heap.size := (by omega); have hq2 : 0 < w2.heap.size := (by omega))
    | (go_at_call 74; refine (check_any A n cap es _ ((Hr.out.below (by repeat' (first | with_reducible exact Below.refl _ _ | with_reducible assumption | with_reducible refine Below.alloc ?_ ?_ _ | with_reducible refine Below.setCell ?_ ?_ _ | with_reducible refine Below.drew ?_ | with_reducible refine below_drewN ?_ _ | with_reducible refine Below.trans ?_ (Below.mono (by with_reducible assumption) ?_) | omega | (simp <;> omega)))).more (by omega)) Hl.out hn hcap hc2 Hok.out).mono ?_; rintro e w3 ⟨rfl, hb3⟩; rw [HE.out]; obtain ⟨hcc3, hff3⟩ := bcell hb3; have hs3 := hb3.size; (try simp at hs3); have hz3 : w.heap.size < w3.heap.size := (by omega); have hy3 : w.heap.size + 1 < w3.heap.size := (by omega); have hq3 : 0 < w3.heap.size := (by omega))
    | (go_at_call 75; refine (sorted_any A n cap es _ ((Hr.out.below (by repeat' (first | with_reducible exact Below.refl _ _ | with_reducible assumption | with_reducible refine Below.alloc ?_ ?_ _ | with_reducible refine Below.setCell ?_ ?_ _ | with_reducible refine Below.drew ?_ | with_reducible refine below_drewN ?_ _ | with_reducible refine Below.trans ?_ (Below.mono (by with_reducible assumption) ?_) | omega | (simp <;> omega)))).more (by omega)) Hl.out hn (checkE_ok HE.out)).mono ?_; rintro e w4 ⟨rfl, hb4⟩; rw [HS.out]; obtain ⟨hcc4, hff4⟩ := bcell hb4; have hs4 := hb4.size; (try simp at hs4); have hz4 : w.heap.size < w4.heap.size := (by omega); have hy4 : w.heap.size + 1 < w4.heap.size := (by omega); have hq4 : 0 < w4.heap.size := (by omega)))
  have d3 : w4.cell? ⟨w.heap.size, 3, none⟩ = some (.slice A n cap) := by go_simp
  have e0 : w4.cell? ⟨w.heap.size + 1, 0, none⟩ = some (.int .i64 T) := by go_simp
  have e1 : w4.cell? ⟨w.heap.size + 1, 1, none⟩ = some (.int .i64 C) := by go_simp
  have e2 : w4.cell? ⟨w.heap.size + 1, 2, none⟩ = some (.int .i64 B) := by go_simp
  have hB4 : Below w.heap.size w w4 := (by repeat' (first | with_reducible exact Below.refl _ _ | with_reducible assumption | with_reducible refine Below.alloc ?_ ?_ _ | with_reducible refine Below.setCell ?_ ?_ _ | with_reducible refine Below.drew ?_ | with_reducible refine below_drewN ?_ _ | with_reducible refine Below.trans ?_ (Below.mono (by with_reducible assumption) ?_) | omega | (simp <;> omega)))
  have hs4' := hs.below hB4
  have Hr4 := hide ((Hr.out.below hB4).more hB4.size)
  have hbd := checkE_ok HE.out
  have Hbd := hide hbd
  clear hbd hcc1 hff1 hcc2 hff2 hcc3 hff3 hcc4 hff4 hb1 hb2 hb3 hb4
  go_loopw [54] (fun i wr => ∃ k : Nat, i = .int .i64 k ∧ k ≤ n ∧ (es.take k).all (fun e => mayL T C B e.a) = true ∧ Below w4.heap.size w4 wr) (fun i _ => n - (intOf i).toNat)
  case atStart => exact ⟨0, rfl, by omega, rfl, (by repeat' (first | with_reducible exact Below.refl _ _ | with_reducible assumption | with_reducible refine Below.alloc ?_ ?_ _ | with_reducible refine Below.setCell ?_ ?_ _ | with_reducible refine Below.drew ?_ | with_reducible refine below_drewN ?_ _ | with_reducible refine Below.trans ?_ (Below.mono (by with_reducible assumption) ?_) | omega | (simp <;> omega)))⟩
  case round =>
    obtain ⟨k, rfl, hk, hno, hB⟩ := hrel
    have hsz := hB.size
    have hBw : Below w.heap.size w wr := hB4.trans (hB.mono hB4.size)
    have d3r : wr.cell? ⟨w.heap.size, 3, none⟩ = some (.slice A n cap) := (hB.cell (p := ⟨w.heap.size, 3, none⟩) hz4).trans d3
    have e0r : wr.cell? ⟨w.heap.size + 1, 0, none⟩ = some (.int .i64 T) := (hB.cell (p := ⟨w.heap.size + 1, 0, none⟩) hy4).trans e0
    have e1r : wr.cell? ⟨w.heap.size + 1, 1, none⟩ = some (.int .i64 C) := (hB.cell (p := ⟨w.heap.size + 1, 1, none⟩) hy4).trans e1
    have e2r : wr.cell? ⟨w.heap.size + 1, 2, none⟩ = some (.int .i64 B) := (hB.cell (p := ⟨w.heap.size + 1, 2, none⟩) hy4).trans e2
    have hzr : w.heap.size < wr.heap.size := by omega
    have hyr : w.heap.size + 1 < wr.heap.size := by omega
    by_cases hlt : k < n
    · have hz1 : es[k]? = some (es[k]'(by rw [Hl.out]; omega)) := List.getElem?_eq_getElem _
      obtain ⟨b, off, rfl, hbb, hcA⟩ := Hr4.out.elem (fun _ => rfl) hlt hz1
      obtain ⟨e, he⟩ : ∃ e, e = es[k]'(by rw [Hl.out]; omega) := ⟨_, rfl⟩
      rw [← he] at hcA hz1
      have bx : ∀ j u, (ec e)[j]? = some u → wr.cell? ⟨b, off + k * 6 + j, none⟩ = some u := fun j u hu => (hB.cell (p := ⟨b, off + k * 6 + j, none⟩) hbb).trans (hcA j u hu)
      have hbr : b < wr.heap.size := by omega
      have hki : (0 : Int) ≤ (k : Int) := by omega
      have hkj : (k : Int) < (n : Int) := by omega
      have hbe := Hbd.out e (List.mem_of_getElem? hz1)
      have htake : es.take (k + 1) = es.take k ++ [e] := by rw [List.take_add_one, hz1]; rfl
      have Htk := hide htake
      have hsr := hs4'.below hB
      have hmem := hide (List.mem_of_getElem? hz1)
      have p_0 : wr.cell? ⟨b, off + k * 6, none⟩ = some (.int .i64 (e).a) := bx 0 _ rfl
      have p_1 : wr.cell? ⟨b, off + k * 6 + 1, none⟩ = some (.int .i64 (e).o.v) := bx 1 _ rfl
      have p_2 : wr.cell? ⟨b, off + k * 6 + 2, none⟩ = some (.int .u32 (e).o.r) := bx 2 _ rfl
      have p_3 : wr.cell? ⟨b, off + k * 6 + 3, none⟩ = some (.int .u32 (e).o.f) := bx 3 _ rfl
      have p_4 : wr.cell? ⟨b, off + k * 6 + 4, none⟩ = some (.int .i64 (e).n) := bx 4 _ rfl
      have p_5 : wr.cell? ⟨b, off + k * 6 + 5, none⟩ = some (.bool (e).w) := bx 5 _ rfl
      clear hcA bx he htake hz1
      cases hq : mayL T C B e.a with
      | true =>
        go_wp2_with (first | (go_at_call 51; refine (may_ok T C B e.a _ hv (hsr.below (by repeat' (first | with_reducible exact Below.refl _ _ | with_reducible assumption | with_reducible refine Below.alloc ?_ ?_ _ | with_reducible refine Below.setCell ?_ ?_ _ | with_reducible refine Below.drew ?_ | with_reducible refine below_drewN ?_ _ | with_reducible refine Below.trans ?_ (Below.mono (by with_reducible assumption) ?_) | omega | (simp <;> omega)))) (by omega) (by omega)).mono ?_; rintro e' w5 ⟨rfl, hb5⟩; rw [hq]))
        exact ⟨⟨k + 1, by go_num, by omega, by rw [Htk.out, List.all_append, hno]; simp [hq], (by repeat' (first | with_reducible exact Below.refl _ _ | with_reducible assumption | with_reducible refine Below.alloc ?_ ?_ _ | with_reducible refine Below.setCell ?_ ?_ _ | with_reducible refine Below.drew ?_ | with_reducible refine below_drewN ?_ _ | with_reducible refine Below.trans ?_ (Below.mono (by with_reducible assumption) ?_) | omega | (simp <;> omega)))⟩, by simp [intOf]; omega⟩
      | false =>
        go_wp2_with (first | (go_at_call 51; refine (may_ok T C B e.a _ hv (hsr.below (by repeat' (first | with_reducible exact Below.refl _ _ | with_reducible assumption | with_reducible refine Below.alloc ?_ ?_ _ | with_reducible refine Below.setCell ?_ ?_ _ | with_reducible refine Below.drew ?_ | with_reducible refine below_drewN ?_ _ | with_reducible refine Below.trans ?_ (Below.mono (by with_reducible assumption) ?_) | omega | (simp <;> omega)))) (by omega) (by omega)).mono ?_; rintro e' w5 ⟨rfl, hb5⟩; rw [hq]))
        go_ret
        have hf : es.all (fun e => mayL T C B e.a) = false := by
          rw [List.all_eq_false]
          exact ⟨e, hmem.out, by rw [hq]; simp⟩
        exact ⟨by rw [HR.out, if_pos hf]; rfl, (by repeat' (first | with_reducible exact Below.refl _ _ | with_reducible assumption | with_reducible refine Below.alloc ?_ ?_ _ | with_reducible refine Below.setCell ?_ ?_ _ | with_reducible refine Below.drew ?_ | with_reducible refine below_drewN ?_ _ | with_reducible refine Below.trans ?_ (Below.mono (by with_reducible assumption) ?_) | omega | (simp <;> omega)))⟩
    · obtain rfl : n = k := by omega
      have hf : Hid (es.all (fun e => mayL T C B e.a) = true) := hide (by rw [List.take_of_length_le (by rw [Hl.out]; exact Nat.le_refl _)] at hno; exact hno)
      by_cases hm : P < (n : Int)
      · go_wp2_with fail
        go_ret
        exact ⟨by rw [HR.out, hf.out, if_neg (by simp), if_pos hm]; rfl, (by repeat' (first | with_reducible exact Below.refl _ _ | with_reducible assumption | with_reducible refine Below.alloc ?_ ?_ _ | with_reducible refine Below.setCell ?_ ?_ _ | with_reducible refine Below.drew ?_ | with_reducible refine below_drewN ?_ _ | with_reducible refine Below.trans ?_ (Below.mono (by with_reducible assumption) ?_) | omega | (simp <;> omega)))⟩
      · go_wp2_with fail
        go_ret
        exact ⟨by rw [HR.out, hf.out, if_neg (by simp), if_neg (by omega)]; rfl, (by repeat' (first | with_reducible exact Below.refl _ _ | with_reducible assumption | with_reducible refine Below.alloc ?_ ?_ _ | with_reducible refine Below.setCell ?_ ?_ _ | with_reducible refine Below.drew ?_ | with_reducible refine below_drewN ?_ _ | with_reducible refine Below.trans ?_ (Below.mono (by with_reducible assumption) ?_) | omega | (simp <;> omega)))⟩
theorem checkd_any (T C B who seq st : Int) (A : Option Addr) (n cap : Nat) (es : List En) (w : World) (hv : Valid T C B) (hs : Sizes w) (h0 : -1000 ≤ who) (h1 : who ≤ 1000) (hr : Rd w w.heap.size 6 A n (es.flatMap ec)) (hl : es.length = n) (hn : n ≤ 1000) (hcap : n ≤ cap) (hc2 : cap ≤ maxLen) (hok : ∀ e ∈ es, e.ok) :
    Calls Tryz.prog 48 #[(.agg #[.int .i64 who, .int .i64 seq, .int .i64 st, .slice A n cap]), (.agg #[.int .i64 T, .int .i64 C, .int .i64 B])] w fun e w' => e = .returned (.int .i64 (checkD T C B who seq st es)) ∧ Below w.heap.size w w' := by
  unfold checkD
  by_cases hP : placeN T C B who = 0
  · rw [if_pos hP]
    exact chk_p T C B who seq st 0 _ _ A n cap es w hv hs h0 h1 hr hl hn hcap hc2 hok hP rfl rfl
  rw [if_neg hP]
  have pb : (placeN T C B who == 0) = false := by simpa using hP
  by_cases q1 : seq < 1
  · rw [if_pos (Or.inl q1)]
    exact chk_q1 T C B who seq st _ _ _ A n cap es w hv hs h0 h1 hr hl hn hcap hc2 hok rfl rfl rfl pb q1
  by_cases q2 : 16777215 < seq
  · rw [if_pos (Or.inr q2)]
    exact chk_q2 T C B who seq st _ _ _ A n cap es w hv hs h0 h1 hr hl hn hcap hc2 hok rfl rfl rfl pb q2
  rw [if_neg (by omega)]
  by_cases s1 : st < 0
  · rw [if_pos (Or.inl s1)]
    exact chk_s1 T C B who seq st _ _ _ A n cap es w hv hs h0 h1 hr hl hn hcap hc2 hok rfl rfl rfl pb (by omega) (by omega) s1
  by_cases s2 : 3 < st
  · rw [if_pos (Or.inr s2)]
    exact chk_s2 T C B who seq st _ _ _ A n cap es w hv hs h0 h1 hr hl hn hcap hc2 hok rfl rfl rfl pb (by omega) (by omega) s2
  rw [if_neg (by omega)]
  by_cases hE : checkE es = 0
  · rw [if_neg (by simpa using hE)]
    cases hS : sortedE es with
    | false =>
      rw [if_pos rfl]
      exact chk_o T C B who seq st _ 0 true A n cap es w hv hs h0 h1 hr hl hn hcap hc2 hok rfl hE hS pb (by omega) (by omega) (by omega) (by omega)
    | true =>
      rw [if_neg (by simp)]
      exact chk_m T C B who seq st _ 0 true A n cap es w hv hs h0 h1 hr hl hn hcap hc2 hok rfl hE hS pb (by omega) (by omega) (by omega) (by omega) _ (by rw [hl])
  · rw [if_pos hE]
    exact chk_e T C B who seq st _ _ _ A n cap es w hv hs h0 h1 hr hl hn hcap hc2 hok rfl rfl rfl pb (by omega) (by omega) (by omega) (by omega) (by simpa using hE)
end Go.Proofs.YtbomhhkknopdpaaGreatDoor
