/- The law's predicate type Look: its conversion and its method Bad. -/
import Derived.Test.YtmpbaanlagmacaaS3
import Derived.Deep.RegionHeld3
namespace Go.Proofs.Ytmpbaanlagmacaa
open Go.RowKit

set_option maxHeartbeats 1000000 in
theorem look_conv (k N : Int) (A : Option Addr) (n cap : Nat) (want : List Pk) (B : Nat) (w : World) (hk0 : 0 ≤ k) (hk1 : k ≤ 255) (hN0 : 0 ≤ N) (hN1 : N ≤ 255) (hn : want.length = n) (hb : n ≤ 1000) (hB : B ≤ w.heap.size) (hr : Rd w B 3 A n (want.flatMap pkc)) :
    Calls Try.prog 36 #[.agg #[.int .u8 k, .slice A n cap, .int .u8 N]] w fun e w' => ∃ A' cap', e = .returned (.agg #[.int .i64 k, .int .i64 N, .slice A' n cap']) ∧ Rd w' w'.heap.size 3 A' n (want.flatMap pkc) ∧ Below w.heap.size w w' := by
  have ek : IntKind.i64.wrap k = k := IntWalk.i64_in _ (by omega)
  have eN : IntKind.i64.wrap N = N := IntWalk.i64_in _ (by omega)
  go_enter Try.func36, Try.ntmps36
  go_wp2_with fail
  go_region_held3 (fun w' => w'.cell? ⟨w.heap.size, 0, none⟩ = some (.int .u8 k) ∧ w'.cell? ⟨w.heap.size, 1, none⟩ = some (.slice A n cap) ∧ w'.cell? ⟨w.heap.size, 2, none⟩ = some (.int .u8 N))
    (first | (refine ⟨?_, ?_, ?_⟩ <;> (go_simp; done)) | go_keep)
    (first
      | (go_at_call 37; refine (of_any A n cap want B _ hn hb (by simp; omega) (hr.below (by repeat' (first | with_reducible exact Below.refl _ _ | with_reducible assumption | with_reducible refine Below.alloc ?_ ?_ _ | with_reducible refine Below.setCell ?_ ?_ _ | with_reducible refine Below.drew ?_ | with_reducible refine below_drewN ?_ _ | with_reducible refine Below.trans ?_ (Below.mono (by with_reducible assumption) ?_) | omega | (simp <;> omega))))).mono ?_; rintro e w1 ⟨A', cap', rfl, hown, hb1⟩; obtain ⟨hc1, hf1⟩ := bcell hb1; have hy1 : w.heap.size < w1.heap.size := (by have h := hb1.size; (try simp at h); omega); have hy2 : w.heap.size + 1 < w1.heap.size := (by have h := hb1.size; (try simp at h); omega)))
  go_wp2
  have e0 : w1.cell? ⟨w.heap.size + 1, 0, none⟩ = some (.int .i64 0) := by go_simp
  have e1 : w1.cell? ⟨w.heap.size + 1, 1, none⟩ = some (.int .i64 0) := by go_simp
  have e2 : w1.cell? ⟨w.heap.size + 1, 2, none⟩ = some (.slice none 0 0) := by go_simp
  have hw := ownsRow_setCell_below (ownsRow_setCell_below (ownsRow_setCell_below hown (a := ⟨w.heap.size + 1, 0, none⟩) (by simp) (.int .i64 k)) (a := ⟨w.heap.size + 1, 1, none⟩) (by simp) (.int .i64 N)) (a := ⟨w.heap.size + 1, 2, none⟩) (by simp) (.slice A' n cap')
  obtain ⟨A2, c2, e3, hrd⟩ := Rd.of_own hw
  injection e3 with e3 e4 e5
  subst e3 e5
  refine bodyPost_ret (v := .agg #[.int .i64 k, .int .i64 N, .slice A' n cap']) (by simp [results, Try.results36, go_sem, e0, e1, e2]) rfl ⟨A', cap', rfl, hrd, (by repeat' (first | with_reducible exact Below.refl _ _ | with_reducible assumption | with_reducible refine Below.alloc ?_ ?_ _ | with_reducible refine Below.setCell ?_ ?_ _ | with_reducible refine Below.drew ?_ | with_reducible refine below_drewN ?_ _ | with_reducible refine Below.trans ?_ (Below.mono (by with_reducible assumption) ?_) | omega | (simp <;> omega)))⟩

set_option maxHeartbeats 1000000 in
/-- The law's predicate at a schedule. -/
theorem lookbad_any (k N : Int) (A A2 : Option Addr) (n n2 cap cap2 : Nat) (want l : List Pk) (B B2 : Nat) (w : World) (hk0 : 0 ≤ k) (hk1 : k ≤ 255) (hN0 : 0 ≤ N) (hN1 : N ≤ 255) (hn : want.length = n) (hb : n ≤ 1000) (hn2 : l.length = n2) (hb2 : n2 ≤ 1000)
    (hB : B ≤ w.heap.size) (hB2 : B2 ≤ w.heap.size) (hr : Rd w B 3 A n (want.flatMap pkc)) (hr2 : Rd w B2 3 A2 n2 (l.flatMap pkc)) :
    Calls Try.prog 44 #[.agg #[.int .u8 k, .slice A n cap, .int .u8 N], .slice A2 n2 cap2] w fun e w' => e = .returned (.bool (badP k N want l)) ∧ Below w.heap.size w w' := by
  go_enter Try.func44, Try.ntmps44
  go_wp2_with fail
  refine (look_conv k N A n cap want B _ hk0 hk1 hN0 hN1 hn hb (by simp; omega) (hr.below (by repeat' (first | with_reducible exact Below.refl _ _ | with_reducible assumption | with_reducible refine Below.alloc ?_ ?_ _ | with_reducible refine Below.setCell ?_ ?_ _ | with_reducible refine Below.drew ?_ | with_reducible refine below_drewN ?_ _ | with_reducible refine Below.trans ?_ (Below.mono (by with_reducible assumption) ?_) | omega | (simp <;> omega))))).mono ?_
  rintro e w1 ⟨A1, c1, rfl, hrd1, hb1⟩
  have hs1 := hb1.size
  simp at hs1
  go_wp2_with fail
  refine (of_any A2 n2 cap2 l B2 _ hn2 hb2 (by omega) (hr2.below (by repeat' (first | with_reducible exact Below.refl _ _ | with_reducible assumption | with_reducible refine Below.alloc ?_ ?_ _ | with_reducible refine Below.setCell ?_ ?_ _ | with_reducible refine Below.drew ?_ | with_reducible refine below_drewN ?_ _ | with_reducible refine Below.trans ?_ (Below.mono (by with_reducible assumption) ?_) | omega | (simp <;> omega))))).mono ?_
  rintro e w2 ⟨A3, c3, rfl, hown, hb2'⟩
  have hs2 := hb2'.size
  obtain ⟨A4, c4, e4, hrd2⟩ := Rd.of_own hown
  injection e4 with e4 e5 e6
  subst e4 e6
  go_wp2_with fail
  refine (refbad_any k N A1 A3 n n2 c1 c3 want l w1.heap.size w2.heap.size _ hk0 hN0 hn hn2 hb hb2 hs2 (Nat.le_refl _) (hrd1.below hb2') hrd2).mono ?_
  rintro e w3 ⟨rfl, hb3⟩
  go_wp2
  go_ret
  exact ⟨rfl, (by repeat' (first | with_reducible exact Below.refl _ _ | with_reducible assumption | with_reducible refine Below.alloc ?_ ?_ _ | with_reducible refine Below.setCell ?_ ?_ _ | with_reducible refine Below.drew ?_ | with_reducible refine below_drewN ?_ _ | with_reducible refine Below.trans ?_ (Below.mono (by with_reducible assumption) ?_) | omega | (simp <;> omega)))⟩
end Go.Proofs.Ytmpbaanlagmacaa
