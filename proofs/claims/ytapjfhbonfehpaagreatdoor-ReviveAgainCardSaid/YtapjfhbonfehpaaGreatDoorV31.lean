/- The recovery code: last, who, steps. -/
import Derived.Test.YtapjfhbonfehpaaGreatDoorV22
import Derived.Test.YtapjfhbonfehpaaGreatDoorV27
set_option linter.unusedSimpArgs false
set_option linter.unusedVariables false
set_option maxRecDepth 100000
set_option maxHeartbeats 40000000
namespace Go.Proofs.YtapjfhbonfehpaaGreatDoor
open Go.RowKit
theorem jc (v : bf) (g : Nat) (l : List (Int × W3)) (p : Int × W3) (w : World) (h : v.R g w) (hl : v.F.l = l ++ [p]) (hn : l.length ≤ 1000000) :
  Calls Tryz.prog 155 #[.pointer (some ⟨g, 0, none⟩)] w (cd (qg p.2) w) := by
 obtain ⟨k, hk⟩ : ∃ k, l.length = k := ⟨_, rfl⟩;obtain ⟨N, hN⟩ : ∃ N, v.F.l.length = N := ⟨_, rfl⟩;have hlen : N = k + 1 := by rw [← hN, ← hk, hl, List.length_append]; rfl
 have hat : v.F.l[k]? = some p := by rw [← hk, hl, List.getElem?_append_right (Nat.le_refl _), Nat.sub_self]; rfl
 obtain ⟨b, off, hA, hb, hbg, hc⟩ := h.2.F.at_ iG hat;have q11 : w.cell? ⟨g, 11, none⟩ = some (.slice (some ⟨b, off, none⟩) N v.F.c) := by
  have := h.1.at (j := 11) rfl;unfold SL.v at this;rwa [hA, hN] at this
 have c1 : w.cell? ⟨b, off + (k * 4 + 1), none⟩ = some (.int .i64 p.2.v) := hc 1 _ rfl;have c2 : w.cell? ⟨b, off + (k * 4 + 2), none⟩ = some (.int .u32 p.2.r) := hc 2 _ rfl;have c3 : w.cell? ⟨b, off + (k * 4 + 3), none⟩ = some (.int .u32 p.2.f) := hc 3 _ rfl;have c1' : w.cell? ⟨b, off + k * 4 + 1, none⟩ = some (.int .i64 p.2.v) := c1;have WG : w.cell? ⟨b, off + k * 4 + 2, none⟩ = some (.int .u32 p.2.r) := c2;have c3' : w.cell? ⟨b, off + k * 4 + 3, none⟩ = some (.int .u32 p.2.f) := c3;have hgl : g < w.heap.size := h.1.2.2;have hsub : IntKind.i64.wrap ((N : Int) - 1) = (k : Int) := by rw [show (N : Int) - 1 = (k : Int) by omega]; exact IntWalk.i64_in _ oM
 have h0 : (0 : Int) ≤ (k : Int) := by omega
 have h1 : (k : Int) < (N : Int) := by omega
 clear hA hc hat hlen hl h c1 c2 c3 hN hk;go_enter Tryz.func155, Tryz.ntmps155;go_wp2_with fail
 go_region_held3 (fun w' => w'.cell? ⟨g, 11, none⟩ = some (.slice (some ⟨b, off, none⟩) N v.F.c) ∧ w'.cell? ⟨b, off + k * 4 + 1, none⟩ = some (.int .i64 p.2.v) ∧ w'.cell? ⟨b, off + k * 4 + 2, none⟩ = some (.int .u32 p.2.r) ∧ w'.cell? ⟨b, off + k * 4 + 3, none⟩ = some (.int .u32 p.2.f))
  (first | exact ⟨by go_simp, by go_simp, by go_simp, by go_simp⟩ | go_keep)
  (fail)
 all_goals go_wp2_with fail
 all_goals exact bodyPost_ret (v := (.agg #[.int .i64 (p.2).v, .int .u32 (p.2).r, .int .u32 (p.2).f])) (by simp [results, Tryz.results155, go_sem]; (try go_simp)) rfl ⟨rfl, ae⟩
def dB (T C B : Int) (x : W3) : Bool := x.f != 0 && decide ((aT x.f).1 > 0) && decide (aF T C B (aT x.f).1 ≥ 0)
theorem fJ (w : World) : Calls Tryz.prog 149 #[] w fun e w' => e = .returned (.slice (some ⟨w.heap.size, 0, none⟩) 5 5) ∧ w'.cell? ⟨w.heap.size, 0, none⟩ = some (.func (.func 150) #[] #[]) ∧ w'.cell? ⟨w.heap.size, 1, none⟩ = some (.func (.func 151) #[] #[]) ∧ w'.cell? ⟨w.heap.size, 2, none⟩ = some (.func (.func 152) #[] #[]) ∧ w'.cell? ⟨w.heap.size, 3, none⟩ = some (.func (.func 153) #[] #[]) ∧ w'.cell? ⟨w.heap.size, 4, none⟩ = some (.func (.func 151) #[] #[]) ∧ w.heap.size < w'.heap.size ∧ Below w.heap.size w w' := by
 go_enter Tryz.func149, Tryz.ntmps149;go_wp2_with fail;go_ret;exact ⟨rfl, by go_simp, by go_simp, by go_simp, by go_simp, by go_simp, by simp, ae⟩
theorem tJ (v : bf) (g : Nat) (x : W3) (w : World) (h : v.R g w) (hv : aC v.T v.C v.B) (hs : ai w) (f0 : 0 ≤ x.f) (f1 : x.f < 4294967296) :
  Calls Tryz.prog 154 #[.pointer (some ⟨g, 0, none⟩), (qg x)] w (cd (.tuple #[.int .i64 (aF v.T v.C v.B (aT x.f).1), .int .i64 (aD v.T v.C v.B (aT x.f).1), .bool (dB v.T v.C v.B x)]) w) := by
 have q0 : w.cell? ⟨g, 0, none⟩ = some (.int .i64 v.T) := h.1.at rfl;have q1 : w.cell? ⟨g, 1, none⟩ = some (.int .i64 v.C) := h.1.at rfl;have q2 : w.cell? ⟨g, 2, none⟩ = some (.int .i64 v.B) := h.1.at rfl;have hgl : g < w.heap.size := h.1.2.2;have hp := hs.pos;have hwb : -1000 ≤ (aT x.f).1 ∧ (aT x.f).1 ≤ 1000 := by
  unfold aT;split
  ·exact ⟨by decide, by decide⟩
  ·simp only;omega
 have kV := fun W => sj x.f W f0 f1;have hpl := fun W (hs' : ai W) => dC v.T v.C v.B (aT x.f).1 W hv hs' hwb.1 hwb.2;have HS := aa hs;unfold dB;generalize hP : aF v.T v.C v.B (aT x.f).1 = P at *;generalize hNN : aD v.T v.C v.B (aT x.f).1 = PN at *;generalize (aT x.f).2 = sq at *;generalize (aT x.f).1 = wh at *;have uR := aa kV;have Va := aa hpl;clear kV hpl hs h hv hP hNN;cases hx : (x.f != 0);all_goals by_cases hw0 : wh > 0
 all_goals by_cases LP : P ≥ 0
 all_goals go_enter Tryz.func154, Tryz.ntmps154
 all_goals go_wp2_with (first
  | (go_at_call 45; refine (uR.out _).mono ?_; rintro e w1 ⟨rfl, rfl⟩)
  | (go_at_call 14; refine rB (Va.out _ (HS.out.below ae)) ?_; intro w2 hb2 aH aL hs2; (try simp at hs2); have hz2 := zL w.heap.size w2))
 all_goals refine bodyPost_ret (by simp [results, Tryz.results154, go_sem]; rfl) rfl ⟨by simp [hx, hw0, LP], ae⟩
end Go.Proofs.YtapjfhbonfehpaaGreatDoor
