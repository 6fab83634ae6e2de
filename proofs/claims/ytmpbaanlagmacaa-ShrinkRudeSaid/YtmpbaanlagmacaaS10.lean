/- Laws of shrink: great and the example of the chapter. -/
import Derived.Test.YtmpbaanlagmacaaS9
import Derived.Test.YtmpbaanlagmacaaSP2
import Derived.Deep.RegionHeld3
import Derived.Deep.QuietTactic
import Derived.BigQuiet
namespace Go.Proofs.Ytmpbaanlagmacaa
open Go.RowKit

set_option maxHeartbeats 1000000 in
theorem great_any (k N : Int) (A A2 : Option Addr) (n n2 cap cap2 : Nat) (w : World) (_h1 : n ≤ maxLen) (_h2 : n2 ≤ maxLen) :
    Calls Try.prog 33 #[.agg #[.int .u8 k, .slice A n cap, .int .u8 N], .slice A2 n2 cap2] w fun e w' => e = .returned (.bool (decide (40 < n2) || decide (20 < n))) ∧ Below w.heap.size w w' := by
  go_enter Try.func33, Try.ntmps33
  by_cases h40 : 40 < n2
  · have h40' : (40 : Int) < n2 := by omega
    go_wp2_with fail
    go_ret
    refine ⟨?_, (by repeat' (first | with_reducible exact Below.refl _ _ | with_reducible assumption | with_reducible refine Below.alloc ?_ ?_ _ | with_reducible refine Below.setCell ?_ ?_ _ | with_reducible refine Below.drew ?_ | with_reducible refine below_drewN ?_ _ | with_reducible refine Below.trans ?_ (Below.mono (by with_reducible assumption) ?_) | omega | (simp <;> omega)))⟩
    first | rfl | (rw [show (decide (40 < n2) || decide (20 < n)) = true by simp [h40]]; rfl)
  · have h40' : ¬ (40 : Int) < n2 := by omega
    go_wp2_with fail
    go_ret
    refine ⟨?_, (by repeat' (first | with_reducible exact Below.refl _ _ | with_reducible assumption | with_reducible refine Below.alloc ?_ ?_ _ | with_reducible refine Below.setCell ?_ ?_ _ | with_reducible refine Below.drew ?_ | with_reducible refine below_drewN ?_ _ | with_reducible refine Below.trans ?_ (Below.mono (by with_reducible assumption) ?_) | omega | (simp <;> omega)))⟩
    have e : decide ((20 : Int) < n) = decide (20 < n) := by by_cases h : 20 < n <;> simp [h] <;> omega
    rw [← e]
    rfl

def W2 : List Pk := [(0, 1, 0), (1, 2, 0)]
def L5 : List Pk := [(0, 1, 0), (0, 3, 0), (1, 2, 0), (2, 0, 0), (1, 2, 0)]
theorem least_L5 : leastP (badP 0 0 W2) L5 = (W2, 8) := by decide +kernel
theorem minimal_W2 : minimalP (badP 0 0 W2) W2 = true := by decide +kernel
theorem rd2_of {W : World} {b B : Nat} (h0 : W.cell? ⟨b, 0, none⟩ = some (.int .i64 0)) (h1 : W.cell? ⟨b, 1, none⟩ = some (.int .i64 1)) (h2 : W.cell? ⟨b, 2, none⟩ = some (.int .i64 0)) (h3 : W.cell? ⟨b, 3, none⟩ = some (.int .i64 1)) (h4 : W.cell? ⟨b, 4, none⟩ = some (.int .i64 2)) (h5 : W.cell? ⟨b, 5, none⟩ = some (.int .i64 0)) (hB : b < B) : Rd W B 3 (some ⟨b, 0, none⟩) 2 (W2.flatMap pkc) := by
  refine ⟨rfl, fun _ => ⟨b, 0, rfl, hB, fun j u hu => ?_⟩⟩
  rw [Nat.zero_add]
  match j, hu with
  | 0, hu => injection hu with hu; subst hu; exact h0
  | 1, hu => injection hu with hu; subst hu; exact h1
  | 2, hu => injection hu with hu; subst hu; exact h2
  | 3, hu => injection hu with hu; subst hu; exact h3
  | 4, hu => injection hu with hu; subst hu; exact h4
  | 5, hu => injection hu with hu; subst hu; exact h5
  | j + 6, hu => cases hu

theorem noDrew {a b : World} (h : Below a.drew.heap.size a.drew b) : Below a.heap.size a b := (Below.refl _ _).drew.trans h
theorem gen_wp {P : Program} {c : Code} {a : Act} {Q : Exit → Act → World → Prop} {W : World} (F : World → Prop) (hF : F W) (h : ∀ W', F W' → Code.wp P c Q a W') : Code.wp P c Q a W := h W hF

set_option maxHeartbeats 2000000 in
set_option maxRecDepth 100000 in
theorem awake60_any (w : World) :
    Calls Try.prog 34 #[] w fun e w' => e = .returned (.bool true) ∧ Below w.heap.size w w' := by
  go_enter Try.func34, Try.ntmps34
  go_wp2_with fail
  refine gen_wp (fun W => (W.cell? ⟨w.heap.size, 0, none⟩ = some (.int .i64 0) ∧ W.cell? ⟨w.heap.size, 1, none⟩ = some (.int .i64 1) ∧ W.cell? ⟨w.heap.size, 2, none⟩ = some (.int .i64 0) ∧
    W.cell? ⟨w.heap.size + 1, 0, none⟩ = some (.int .i64 1) ∧ W.cell? ⟨w.heap.size + 1, 1, none⟩ = some (.int .i64 2) ∧ W.cell? ⟨w.heap.size + 1, 2, none⟩ = some (.int .i64 0) ∧
    W.cell? ⟨w.heap.size + 1 + 1 + 1 + 1, 0, none⟩ = some (.int .u8 0) ∧ W.cell? ⟨w.heap.size + 1 + 1 + 1 + 1, 1, none⟩ = some (.slice (some ⟨w.heap.size + 1 + 1 + 1, 0, none⟩) 2 2) ∧ W.cell? ⟨w.heap.size + 1 + 1 + 1 + 1, 2, none⟩ = some (.int .u8 0)) ∧
    Below w.heap.size w W ∧ W.heap.size = w.heap.size + 5 ∧ Rd W W.heap.size 3 (some ⟨w.heap.size + 1 + 1 + 1, 0, none⟩) 2 (W2.flatMap pkc) ∧ Rd W W.heap.size 3 (some ⟨w.heap.size + 1 + 1, 0, none⟩) 5 (L5.flatMap pkc)) ?_ ?_
  · refine ⟨⟨?_, ?_, ?_, ?_, ?_, ?_, ?_, ?_, ?_⟩, (by repeat' (first | with_reducible exact Below.refl _ _ | with_reducible assumption | with_reducible refine Below.alloc ?_ ?_ _ | with_reducible refine Below.setCell ?_ ?_ _ | with_reducible refine Below.drew ?_ | with_reducible refine below_drewN ?_ _ | with_reducible refine Below.trans ?_ (Below.mono (by with_reducible assumption) ?_) | omega | (simp <;> omega))), by simp, ?_, ?_⟩
    all_goals first | (go_simp; done) | skip
    · exact rd2_of (by go_simp) (by go_simp) (by go_simp) (by go_simp) (by go_simp) (by go_simp) (by simp)
    · refine ⟨rfl, fun _ => ⟨w.heap.size + 1 + 1, 0, rfl, by simp, fun j u hu => ?_⟩⟩
      rw [Nat.zero_add]
      match j, hu with
      | 0, hu | 1, hu | 2, hu | 3, hu | 4, hu | 5, hu | 6, hu | 7, hu | 8, hu | 9, hu | 10, hu | 11, hu | 12, hu | 13, hu | 14, hu => injection hu with hu; subst hu; go_simp
      | j + 15, hu => cases hu
  · rintro W0 ⟨⟨k0, k1, k2, k3, k4, k5, k6, k7, k8⟩, hB0, hz, hrW, hrL⟩
    generalize hb1 : w.heap.size + 1 = b1 at *
    generalize hb4 : b1 + 1 + 1 + 1 = b4 at *
    generalize hb3 : b1 + 1 + 1 = b3 at *
    generalize hb2 : b1 + 1 = b2 at *
    have hlt0 : w.heap.size < W0.heap.size := by omega
    have hlt1 : b1 < W0.heap.size := by omega
    have hlt4 : b4 < W0.heap.size := by omega
    have hle0 : w.heap.size ≤ W0.heap.size := by omega
    have hle1 : b1 ≤ W0.heap.size := by omega
    have hle4 : b4 ≤ W0.heap.size := by omega
    have hPred := look_pred 0 0 (some ⟨b3, 0, none⟩) 2 2 W2 W0.heap.size W0 (by omega) (by omega) (by omega) (by omega) rfl (by omega) hrW (Nat.le_refl _)
    have HL : Hid (∀ W, Below W0.heap.size W0 W → Calls Try.prog 39 #[.iface 65 (.agg #[.int .u8 0, .slice (some ⟨b3, 0, none⟩) 2 2, .int .u8 0]), .slice (some ⟨b2, 0, none⟩) 5 5] W fun e w' => ∃ A' cap', e = .returned (.slice A' 2 cap') ∧ Rd w' w'.heap.size 3 A' 2 (W2.flatMap pkc) ∧ Below W.heap.size W w') := hide fun W hb => by
      refine (least_any _ _ _ (badP 0 0 W2) (some ⟨b2, 0, none⟩) 5 5 L5 W0.heap.size W rfl (by omega) (by omega) ((hrL.below hb).more hb.size) hb.size (hPred.below hb)).mono ?_
      rintro e w' ⟨A', n', cap', rfl, h1, h2, h3, h4⟩
      rw [least_L5] at h1 h3
      obtain rfl : 2 = n' := h1
      exact ⟨A', cap', rfl, h3, h4⟩
    have HS : Hid (∀ W, Below W0.heap.size W0 W → Calls Try.prog 40 #[.iface 65 (.agg #[.int .u8 0, .slice (some ⟨b3, 0, none⟩) 2 2, .int .u8 0]), .slice (some ⟨b2, 0, none⟩) 5 5] W fun e w' => e = .returned (.int .i64 8) ∧ Below W.heap.size W w') := hide fun W hb => by
      have h := steps_any _ _ _ (badP 0 0 W2) (some ⟨b2, 0, none⟩) 5 5 L5 W0.heap.size W rfl (by omega) (by omega) ((hrL.below hb).more hb.size) hb.size (hPred.below hb)
      rw [least_L5] at h
      exact h
    have HM : Hid (∀ W b, Below W0.heap.size W0 W → Rd W W.heap.size 3 (some ⟨b, 0, none⟩) 2 (W2.flatMap pkc) → Calls Try.prog 42 #[.iface 65 (.agg #[.int .u8 0, .slice (some ⟨b3, 0, none⟩) 2 2, .int .u8 0]), .slice (some ⟨b, 0, none⟩) 2 2] W fun e w' => e = .returned (.bool true) ∧ Below W.heap.size W w') := hide fun W b hb hr => by
      have h := minimal_any _ _ _ (badP 0 0 W2) (some ⟨b, 0, none⟩) 2 2 W2 W0.heap.size W rfl (by omega) (by omega) hr hb.size (hPred.below hb)
      rw [minimal_W2] at h
      exact h
    have HA : Hid (∀ W A c b, Rd W W.heap.size 3 A 2 (W2.flatMap pkc) → Rd W W.heap.size 3 (some ⟨b, 0, none⟩) 2 (W2.flatMap pkc) → Calls Try.prog 41 #[.slice A 2 c, .slice (some ⟨b, 0, none⟩) 2 2] W fun e w' => e = .returned (.bool true) ∧ Below W.heap.size W w') := hide fun W A c b h1 h2 => by
      refine (alike_any A (some ⟨b, 0, none⟩) 2 2 c 2 W2 W2 W.heap.size W.heap.size W rfl rfl (by omega) (by omega) h1 h2).mono ?_
      rintro e w' ⟨rfl, n, rfl⟩
      exact ⟨by rw [show (W2 == W2) = true by decide], below_drewN (Below.refl _ _) n⟩
    clear hrW hrL hPred hz hb1 hb2 hb3 hb4
    go_region_held3 (fun W => W.cell? ⟨w.heap.size, 0, none⟩ = some (.int .i64 0) ∧ W.cell? ⟨w.heap.size, 1, none⟩ = some (.int .i64 1) ∧ W.cell? ⟨w.heap.size, 2, none⟩ = some (.int .i64 0) ∧
      W.cell? ⟨b1, 0, none⟩ = some (.int .i64 1) ∧ W.cell? ⟨b1, 1, none⟩ = some (.int .i64 2) ∧ W.cell? ⟨b1, 2, none⟩ = some (.int .i64 0) ∧
      W.cell? ⟨b4, 0, none⟩ = some (.int .u8 0) ∧ W.cell? ⟨b4, 1, none⟩ = some (.slice (some ⟨b3, 0, none⟩) 2 2) ∧ W.cell? ⟨b4, 2, none⟩ = some (.int .u8 0))
      (first | (refine ⟨?_, ?_, ?_, ?_, ?_, ?_, ?_, ?_, ?_⟩ <;> (go_simp; done)) | go_keep)
      (first
        | (go_at_call 39; refine (HL.out _ (by repeat' (first | with_reducible exact Below.refl _ _ | with_reducible assumption | with_reducible refine Below.alloc ?_ ?_ _ | with_reducible refine Below.setCell ?_ ?_ _ | with_reducible refine Below.drew ?_ | with_reducible refine below_drewN ?_ _ | with_reducible refine Below.trans ?_ (Below.mono (by with_reducible assumption) ?_) | omega | (simp <;> omega)))).mono ?_; rintro e w1 ⟨A1, c1, rfl, hr1, hv1'⟩; have hv1 : Below _ _ w1 := (by first | with_reducible exact noDrew hv1' | exact hv1'); clear hv1'; obtain ⟨hc1, hf1⟩ := bcell hv1; have hs1 := hv1.size; (try simp at hs1); have hy10 : w.heap.size < w1.heap.size := (by omega); have hz10 : w.heap.size ≤ w1.heap.size := (by omega); have hz11 : b1 ≤ w1.heap.size := (by omega); have hz14 : b4 ≤ w1.heap.size := (by omega); have hy11 : b1 < w1.heap.size := (by omega); have hy14 : b4 < w1.heap.size := (by omega); have hyW : W0.heap.size ≤ w1.heap.size := (by omega); (try have hyW1 : W0.heap.size < w1.heap.size := (by omega)))
        | (go_at_call 41; refine (HA.out _ _ _ _ ((hr1.below (by repeat' (first | with_reducible exact Below.refl _ _ | with_reducible assumption | with_reducible refine Below.alloc ?_ ?_ _ | with_reducible refine Below.setCell ?_ ?_ _ | with_reducible refine Below.drew ?_ | with_reducible refine below_drewN ?_ _ | with_reducible refine Below.trans ?_ (Below.mono (by with_reducible assumption) ?_) | omega | (simp <;> omega)))).more (by first | omega | (simp; done) | (simp; omega))) (rd2_of (by go_simp) (by go_simp) (by go_simp) (by go_simp) (by go_simp) (by go_simp) (by first | omega | (simp; done) | (simp; omega)))).mono ?_; rintro e w2 ⟨rfl, hv2'⟩; have hv2 : Below _ _ w2 := (by first | with_reducible exact noDrew hv2' | exact hv2'); clear hv2'; obtain ⟨hc2, hf2⟩ := bcell hv2; have hs2 := hv2.size; (try simp at hs2); have hy20 : w.heap.size < w2.heap.size := (by omega); have hz20 : w.heap.size ≤ w2.heap.size := (by omega); have hz21 : b1 ≤ w2.heap.size := (by omega); have hz24 : b4 ≤ w2.heap.size := (by omega); have hy21 : b1 < w2.heap.size := (by omega); have hy24 : b4 < w2.heap.size := (by omega); have hyX : W0.heap.size ≤ w2.heap.size := (by omega); have hyX1 : w1.heap.size ≤ w2.heap.size := (by omega))
        | (go_at_call 42; refine (HM.out _ _ (by repeat' (first | with_reducible exact Below.refl _ _ | with_reducible assumption | with_reducible refine Below.alloc ?_ ?_ _ | with_reducible refine Below.setCell ?_ ?_ _ | with_reducible refine Below.drew ?_ | with_reducible refine below_drewN ?_ _ | with_reducible refine Below.trans ?_ (Below.mono (by with_reducible assumption) ?_) | omega | (simp <;> omega))) (rd2_of (by go_simp) (by go_simp) (by go_simp) (by go_simp) (by go_simp) (by go_simp) (by first | omega | (simp; done) | (simp; omega)))).mono ?_; rintro e w3 ⟨rfl, hv3'⟩; have hv3 : Below _ _ w3 := (by first | with_reducible exact noDrew hv3' | exact hv3'); clear hv3'; obtain ⟨hc3, hf3⟩ := bcell hv3; have hs3 := hv3.size; (try simp at hs3); have hy30 : w.heap.size < w3.heap.size := (by omega); have hz30 : w.heap.size ≤ w3.heap.size := (by omega); have hz31 : b1 ≤ w3.heap.size := (by omega); have hz34 : b4 ≤ w3.heap.size := (by omega); have hy31 : b1 < w3.heap.size := (by omega); have hy34 : b4 < w3.heap.size := (by omega); have hyZ : W0.heap.size ≤ w3.heap.size := (by omega))
        | (go_at_call 40; refine (HS.out _ (by repeat' (first | with_reducible exact Below.refl _ _ | with_reducible assumption | with_reducible refine Below.alloc ?_ ?_ _ | with_reducible refine Below.setCell ?_ ?_ _ | with_reducible refine Below.drew ?_ | with_reducible refine below_drewN ?_ _ | with_reducible refine Below.trans ?_ (Below.mono (by with_reducible assumption) ?_) | omega | (simp <;> omega)))).mono ?_; rintro e w4 ⟨rfl, hv4'⟩; have hv4 : Below _ _ w4 := (by first | with_reducible exact noDrew hv4' | exact hv4'); clear hv4'; obtain ⟨hc4, hf4⟩ := bcell hv4))
    all_goals go_wp2
    all_goals go_ret
    all_goals exact ⟨rfl, (by repeat' (first | with_reducible exact Below.refl _ _ | with_reducible assumption | with_reducible refine Below.alloc ?_ ?_ _ | with_reducible refine Below.setCell ?_ ?_ _ | with_reducible refine Below.drew ?_ | with_reducible refine below_drewN ?_ _ | with_reducible refine Below.trans ?_ (Below.mono (by with_reducible assumption) ?_) | omega | (simp <;> omega)))⟩
end Go.Proofs.Ytmpbaanlagmacaa
