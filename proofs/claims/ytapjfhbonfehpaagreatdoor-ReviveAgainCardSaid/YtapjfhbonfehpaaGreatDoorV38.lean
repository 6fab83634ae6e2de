/- Package memory: adds. -/
import Derived.Test.YtapjfhbonfehpaaGreatDoorV09
import Derived.Test.YtapjfhbonfehpaaGreatDoorV13
import Derived.Test.YtapjfhbonfehpaaGreatDoorV36
set_option linter.unusedSimpArgs false
set_option linter.unusedVariables false
set_option maxRecDepth 100000
set_option maxHeartbeats 40000000
namespace Go.Proofs.YtapjfhbonfehpaaGreatDoor
open Go.RowKit Go.Maps
def u7 (L : Nat) (a : eG) (w : World) : Prop := a.R L w
theorem u7.alloc {L : Nat} {a : eG} {w : World} (h : u7 L a w) (o : Array Value) (t : TypeId) : u7 L a (w.alloc (.cells o t)) := eG.R.below h (Below.alloc (Below.refl _ _) (Nat.le_refl _) _)
theorem u7.drew {L : Nat} {a : eG} {w : World} (h : u7 L a w) : u7 L a w.drew := eG.R.below h (Below.drew (Below.refl _ _))
theorem u7.below {L : Nat} {a : eG} {w w' : World} (h : u7 L a w) (hb : Below w.heap.size w w') : u7 L a w' := eG.R.below h hb
theorem u7.set {L : Nat} {a : eG} {w : World} {p : Addr} (h : u7 L a w) (hc : dK p w) (x : Value) : u7 L a (w.setCell p x) := by
 obtain ⟨u, hc⟩ := hc;exact eG.R.setCell h hc x
theorem BD (n pc k b off : Nat) (hk : k + 1 ≤ n) (hp : n ≤ pc) (W : World) : (Instr.slice 87 (.slice (some ⟨b, off, none⟩) n pc) (some (.int .i64 ((k : Int) + 1))) none none).run Tryz.prog W = .ok (.slice (some (if pc = k + 1 then ⟨b, off, none⟩ else ⟨b, off + (k + 1), none⟩)) (n - (k + 1)) (pc - (k + 1))) W := by
 have hs : (sizeOf (Tryz.prog.elem 87)).run Tryz.prog W = .ok 1 W := by kernel_rfl
 rw [run_slice_l W 87 _ _ _ kR .i64 _ oM oM, hs];have e4 : ((k : Int) + 1).toNat = k + 1 := by omega
 simp only [Result.andThen, sliced, e4];by_cases h : pc = k + 1
 ·simp [h]
 ·simp [h, Addr.add]
theorem Rd.take1 {α : Type} {w : World} {B n k : Nat} {A : Option Addr} {g : α → Value} {l : List α} (h : Rd w B 1 A n (l.map g)) (hk : k ≤ n) : Rd w B 1 A k ((l.take k).map g) := by
 obtain ⟨h1, h2⟩ := h;rw [List.length_map] at h1;refine ⟨by rw [List.length_map, List.length_take]; omega, fun hn => ?_⟩;obtain ⟨b, off, e, hB, hc⟩ := h2 oM;refine ⟨b, off, e, hB, fun j u hu => hc j u ?_⟩;rw [List.getElem?_map] at hu ⊢;have hj : j < k := by
  by_cases hj : j < k
  ·exact hj
  ·rw [List.getElem?_eq_none (by simp; omega)] at hu;cases hu
 rw [List.getElem?_take_of_lt hj] at hu;exact hu
theorem Rd.drop1 {α : Type} {w : World} {B n k b off : Nat} {g : α → Value} {l : List α} (h : Rd w B 1 (some ⟨b, off, none⟩) n (l.map g)) (hk : k ≤ n) : Rd w B 1 (some ⟨b, off + k, none⟩) (n - k) ((l.drop k).map g) := by
 obtain ⟨h1, h2⟩ := h;rw [List.length_map] at h1;refine ⟨by rw [List.length_map, List.length_drop]; omega, fun hn => ?_⟩;obtain ⟨b', off', e, hB, hc⟩ := h2 oM;injection e with e
 injection e with e1 e2
 subst e1 e2;refine ⟨b, off + k, rfl, hB, fun j u hu => ?_⟩;rw [List.getElem?_map, List.getElem?_drop] at hu;rw [Nat.add_assoc];exact hc (k + j) u (by rw [List.getElem?_map]; exact hu)
theorem KL {w : World} {B n pc k b off : Nat} {l : List br} (h : Rd w B 1 (some ⟨b, off, none⟩) n (l.map bK)) (hk : k + 1 ≤ n) (hp : n ≤ pc) : ∃ (A : Option Addr) (c : Nat), (∀ W, (Instr.slice 87 (.slice (some ⟨b, off, none⟩) n pc) (some (.int .i64 ((k : Int) + 1))) none none).run Tryz.prog W = .ok (.slice A (n - (k + 1)) c) W) ∧ Hid (Rd w B 1 A (n - (k + 1)) ((l.drop (k + 1)).map bK)) := by
 refine ⟨_, _, fun W => BD n pc k b off hk hp W, ?_⟩;by_cases e : pc = k + 1
 ·rw [if_pos e, show n - (k + 1) = 0 by omega, List.drop_of_length_le (by have := h.1; rw [List.length_map] at this; omega)];exact Rd.nil _ _ _ _
 ·rw [if_neg e];exact Rd.drop1 h hk
theorem qN {L : Nat} {w : World} {h : br} {g c o : Nat} (hr : h.R L w) (hA : h.A = some ⟨g, 0, none⟩) (hne : c ≠ g) (hc : dK ⟨c, o, none⟩ w) (x : Value) : h.R L (w.setCell ⟨c, o, none⟩ x) := by
 obtain ⟨u, hc⟩ := hc;obtain ⟨h1, h2, h3, h4⟩ := hr;rw [hA] at h3;refine ⟨h1, h2, ?_, fun m hm => (h4 m hm).setCell hc x⟩;rw [hA, show (w.setCell ⟨c, o, none⟩ x).heap.size = w.heap.size by simp];exact Rd.set_far h3 hne x
theorem Dx {w w' : World} {m : aS} {k g c n : Nat} {h' : br} {xs : List Value} (HR : m.R w) (hb : Below w.heap.size w w') (hn : m.hs.length = n) (hk : k < n) (nh : Rd w' w'.heap.size 1 (some ⟨g, 0, none⟩) n xs) (hxs : xs = (m.hs.take k).map bK ++ [bK h'] ++ (m.hs.drop (k + 1)).map bK) (hc : n ≤ c) (hh : h'.R n w') : aS.R w' ⟨some ⟨g, 0, none⟩, c, m.hs.set k h', m.vA, m.vc, m.vs⟩ := by
 have hF := HR.below hb;have e1 : (m.hs.set k h').length = n := by rw [List.length_set, hn]
 have e2 : xs = (m.hs.set k h').map bK := by
  rw [hxs, List.set_eq_take_append_cons_drop, if_pos oM];simp
 subst e2;refine ⟨?_, ?_⟩
 ·show (m.hs.set k h').length ≤ c ∧ (some (⟨g, 0, none⟩ : Addr) = none → (m.hs.set k h').length = 0) ∧ Rd w' w'.heap.size 1 (some ⟨g, 0, none⟩) (m.hs.set k h').length ((m.hs.set k h').map bK) ∧ ∀ x ∈ m.hs.set k h', x.R (m.hs.set k h').length w';rw [e1];refine ⟨hc, (fun e => by cases e), nh, fun x hx => ?_⟩;rcases List.mem_or_eq_of_mem_set hx with hx | rfl
  ·exact hn ▸ hF.1.2.2.2 x hx
  ·exact hh
 ·show m.vs.length ≤ m.vc ∧ (m.vA = none → m.vs.length = 0) ∧ Rd w' w'.heap.size 1 m.vA m.vs.length (m.vs.map ze) ∧ ∀ a ∈ m.vs, a.R (m.hs.set k h').length w';rw [e1, ← hn];exact hF.2
theorem EZ : (Tryz.prog.info? 149).map (fun i => (i.zero, i.size, i.bytes)) = some (some (.agg #[.slice none 0 0]), 1, 24) := by kernel_rfl
theorem abT {p : Prop} (h : p := by
 refine wp_region_held_drew (S := (HX w.heap.size [.slice (some ⟨b, off, none⟩) hs.length pc, .slice vA vs.length vc] (w.heap.size + 1 + 1 + 1) 0 (.slice h.A h.l.length h.cap) ([]))) kR Gg (fun hHeld => ?_);(try simp only [jl] at hHeld);refine dm 0 ?_;refine dm 1 ?_;refine dm 3 ?_;refine dm 4 ?_;refine wR (rs := [2, 7]) ?_;focus
  refine aI (fun K hK => ?_) (aE fun K hK => ?_);focus
   go_simp;(go_at_call 118; refine (ja.out _ (HR.out.below ae)).mono ?_; rintro e w2 ⟨rfl, kX⟩; have hb2 : Below _ _ w2 := qZ; have uj := (hb2).size; (try simp at uj));go_wp2_with fail;refine oK hK Gg fun hHeld => ?_;clear hK K;refine wR (rs := [5, 7]) ?_;refine aI (fun K hK => ?_) (aE fun K hK => ?_);focus
    go_simp;(go_at_call 120; refine (mD h _).mono ?_; rintro e w3 ⟨rfl, gf⟩; have hb3 : Below _ _ w3 := jk; have yi := (hb3).size; (try simp at yi));go_wp2_with fail;refine oK hK Gg fun hHeld => ?_;clear hK K;refine wR (rs := [6, 7]) ?_;refine aI (fun K hK => ?_) (aE fun K hK => ?_);focus
     go_simp;(go_at_call 119; refine (mQ.out _ (vV.out.below ae)).mono ?_; rintro e w4 ⟨v4, rfl, hv4, dy⟩; have hb4 : Below _ _ w4 := nV; have yh := (hb4).size; (try simp at yh); have Kv : Hid (u7 hs.length ⟨v4, aJ a.f k h.l.length⟩ w4) := aa hv4; clear hv4);go_wp2_with fail;refine oK hK Gg fun hHeld => ?_;clear hK K;refine wE 7 fun K hK => ?_;go_simp;go_wp2_with fail;refine oX hK w4.heap.size 1 jJ fun hHeld => ?_;clear hK K;refine wE 8 fun K hK => ?_;have hE := hHeld.box (B := (w4.heap.size)) (n := 1) sM; have kf := hE.fz; obtain ⟨u0, k0⟩ := hE.at (j := 0) oM;go_simp;go_wp2_with fail;refine oK hK gg fun hHeld => ?_;clear hK K;refine wD ?_
    rotate_left 1;focus
     go_simp;go_wp2_with fail;refine oX hK w3.heap.size 1 jJ fun hHeld => ?_;clear hK K;refine wE 6 fun K hK => ?_;go_simp;(go_at_call 119; refine (mQ.out _ (vV.out.below ae)).mono ?_; rintro e w4 ⟨v4, rfl, hv4, dy⟩; have hb4 : Below _ _ w4 := nV; have yh := (hb4).size; (try simp at yh); have Kv : Hid (u7 hs.length ⟨v4, aJ a.f k h.l.length⟩ w4) := aa hv4; clear hv4);go_wp2_with fail;refine oK hK fU fun hHeld => ?_;clear hK K;refine wE 8 fun K hK => ?_;have hE := hHeld.box (B := (w3.heap.size)) (n := 1) sM; have kf := hE.fz; obtain ⟨u0, k0⟩ := hE.at (j := 0) oM;go_simp;go_wp2_with fail;refine oK hK gg fun hHeld => ?_;clear hK K;refine wD ?_
    rotate_left 1
   rotate_left 2;focus
    go_simp;go_wp2_with fail;refine oX hK w2.heap.size 1 jJ fun hHeld => ?_;clear hK K;refine wE 5 fun K hK => ?_;go_simp;(go_at_call 120; refine (mD h _).mono ?_; rintro e w3 ⟨rfl, gf⟩; have hb3 : Below _ _ w3 := jk; have yi := (hb3).size; (try simp at yi));go_wp2_with fail;refine oK hK fU fun hHeld => ?_;clear hK K;refine wE 6 fun K hK => ?_;go_simp;(go_at_call 119; refine (mQ.out _ (vV.out.below ae)).mono ?_; rintro e w4 ⟨v4, rfl, hv4, dy⟩; have hb4 : Below _ _ w4 := nV; have yh := (hb4).size; (try simp at yh); have Kv : Hid (u7 hs.length ⟨v4, aJ a.f k h.l.length⟩ w4) := aa hv4; clear hv4);go_wp2_with fail;refine oK hK fU fun hHeld => ?_;clear hK K;refine wE 8 fun K hK => ?_;have hE := hHeld.box (B := (w2.heap.size)) (n := 1) sM; have kf := hE.fz; obtain ⟨u0, k0⟩ := hE.at (j := 0) oM;go_simp;go_wp2_with fail;refine oK hK gg fun hHeld => ?_;clear hK K;refine wD ?_
   rotate_left 1
  rotate_left 3;focus
   go_simp;go_wp2_with fail;refine oX hK w1.heap.size 1 jJ fun hHeld => ?_;clear hK K;refine wE 2 fun K hK => ?_;go_simp;(go_at_call 118; refine (ja.out _ (HR.out.below ae)).mono ?_; rintro e w2 ⟨rfl, kX⟩; have hb2 : Below _ _ w2 := qZ; have uj := (hb2).size; (try simp at uj));go_wp2_with fail;refine oK hK fU fun hHeld => ?_;clear hK K;refine wE 5 fun K hK => ?_;go_simp;(go_at_call 120; refine (mD h _).mono ?_; rintro e w3 ⟨rfl, gf⟩; have hb3 : Below _ _ w3 := jk; have yi := (hb3).size; (try simp at yi));go_wp2_with fail;refine oK hK fU fun hHeld => ?_;clear hK K;refine wE 6 fun K hK => ?_;go_simp;(go_at_call 119; refine (mQ.out _ (vV.out.below ae)).mono ?_; rintro e w4 ⟨v4, rfl, hv4, dy⟩; have hb4 : Below _ _ w4 := nV; have yh := (hb4).size; (try simp at yh); have Kv : Hid (u7 hs.length ⟨v4, aJ a.f k h.l.length⟩ w4) := aa hv4; clear hv4);go_wp2_with fail;refine oK hK fU fun hHeld => ?_;clear hK K;refine wE 8 fun K hK => ?_;have hE := hHeld.box (B := (w1.heap.size)) (n := 1) sM; have kf := hE.fz; obtain ⟨u0, k0⟩ := hE.at (j := 0) oM;go_simp;go_wp2_with fail;refine oK hK gg fun hHeld => ?_;clear hK K;refine wD ?_
  rotate_left 1
 all_goals go_wp2_with fail
 all_goals go_meet
 all_goals exact ⟨_, v4, rfl, by omega, by go_simp, aa (by repeat' (first | with_reducible exact Kv.out | with_reducible refine u7.drew ?_ | with_reducible refine u7.alloc ?_ _ _ | with_reducible refine u7.set ?_ ?_ _ | with_reducible exact dK.of aM | with_reducible refine dK.set ?_ _ | omega)), ae⟩) : p := h
def aS.off (C : Nat) (m : aS) : Prop := bm C m.hs.length m.pA ∧ bm C m.vs.length m.vA ∧ ∀ h ∈ m.hs, bm C h.l.length h.A
theorem aS.off_new {w : World} {m : aS} {C : Nat} (h : m.R w) (hC : w.heap.size ≤ C) : m.off C :=
 ⟨bm.new h.1.2.2.1 hC, bm.new h.2.2.2.1 hC, fun x hx => bm.new (h.1.2.2.2 x hx).2.2.1 hC⟩
theorem br.R.set_off {L : Nat} {w : World} {h : br} {C o : Nat} (hr : h.R L w) (hoff : bm C h.l.length h.A) (hc : dK ⟨C, o, none⟩ w) (x : Value) : h.R L (w.setCell ⟨C, o, none⟩ x) := by
 obtain ⟨u, hc⟩ := hc;obtain ⟨h1, h2, h3, h4⟩ := hr;refine ⟨h1, h2, ?_, fun m hm => (h4 m hm).setCell hc x⟩;rw [show (w.setCell ⟨C, o, none⟩ x).heap.size = w.heap.size by simp];exact Rd.set_off h3 hoff x
theorem aS.R.set {w : World} {m : aS} {C o : Nat} (h : m.R w) (hoff : m.off C) (hc : dK ⟨C, o, none⟩ w) (x : Value) : m.R (w.setCell ⟨C, o, none⟩ x) := by
 have es : (w.setCell ⟨C, o, none⟩ x).heap.size = w.heap.size := by simp
 refine ⟨⟨h.1.1, h.1.2.1, ?_, fun y hy => (h.1.2.2.2 y hy).set_off (hoff.2.2 y hy) hc x⟩, ⟨h.2.1, h.2.2.1, ?_, fun y hy => ?_⟩⟩
 ·rw [es]; exact Rd.set_off h.1.2.2.1 hoff.1 x
 ·rw [es]; exact Rd.set_off h.2.2.2.1 hoff.2.1 x
 ·obtain ⟨u, hc⟩ := hc;exact (h.2.2.2.2 y hy).setCell hc x
theorem aS.off_with {m : aS} {C g c t : Nat} {a : eG} (h : m.off C) (hg : g ≠ C) : (m.with (some ⟨g, 0, none⟩) c t a).off C := ⟨h.1, bm.at hg, h.2.2⟩
theorem aS.off_put {m : aS} {C g c k g' c' : Nat} {l : List io} (h : m.off C) (hg : g ≠ C) (MX : g' ≠ C) : aS.off C ⟨some ⟨g, 0, none⟩, c, m.hs.set k ⟨some ⟨g', 0, none⟩, c', l⟩, m.vA, m.vc, m.vs⟩ := by
 refine ⟨bm.at hg, h.2.1, fun x hx => ?_⟩;rcases List.mem_or_eq_of_mem_set hx with hx | rfl
 ·exact h.2.2 x hx
 ·exact bm.at MX
def nu (x : W3) : io := ⟨x, 0, ⟨none, fun _ => 0⟩⟩
theorem qM (x : W3) (w : World) : Calls Tryz.prog 65 #[(qg x)] w fun e w' => ∃ g cap, e = .returned (.agg #[.slice (some ⟨g, 0, none⟩) 1 cap]) ∧ 1 ≤ cap ∧ w.heap.size ≤ g ∧ g < w'.heap.size ∧ Rd w' w'.heap.size 5 (some ⟨g, 0, none⟩) 1 (vB (nu x)) ∧ Below w.heap.size w w' := by
 go_enter Tryz.func65, Tryz.ntmps65;go_wp2_with fail;refine bodyPost_ret (v := .agg #[.slice (some ⟨w.heap.size + 1 + 1, 0, none⟩) 1 1]) (by simp [results, Tryz.results65, go_sem]) rfl ⟨_, _, rfl, Nat.le_refl _, by omega, by simp, ⟨by simp [vB], fun _ => ⟨_, 0, rfl, by simp, fun j u hu => ?_⟩⟩, ae⟩;simp only [vB, nu] at hu
 match j, hu with
 | 0, hu => injection hu with hu; subst hu; go_simp
 | 1, hu => injection hu with hu; subst hu; go_simp
 | 2, hu => injection hu with hu; subst hu; go_simp
 | 3, hu => injection hu with hu; subst hu; go_simp
 | 4, hu => injection hu with hu; subst hu; go_simp
def ie (base : Nat) (v : Value) (w : World) (x : W3) (h : br) : Prop := ∃ b cap, h = ⟨some ⟨b, 0, none⟩, cap, [nu x]⟩ ∧ 1 ≤ cap ∧ base ≤ b ∧ b < w.heap.size ∧ v.ownBlock ≠ some b ∧ Rd w w.heap.size 5 (some ⟨b, 0, none⟩) 1 (vB (nu x))
section
variable {base : Nat} {v v' : Value} {w w' : World} {x : W3} {h : br}
theorem ie.R (hh : ie base v w x h) (L : Nat) : h.R L w := by
 obtain ⟨b, cap, rfl, hc, _, _, _, hr⟩ := hh;refine ⟨hc, (fun e => by cases e), ?_, fun m hm => ?_⟩
 ·show Rd w w.heap.size 5 (some ⟨b, 0, none⟩) 1 ([nu x].flatMap vB);rw [List.flatMap_cons, List.flatMap_nil, List.append_nil];exact hr
 ·obtain rfl := List.mem_singleton.1 hm;exact eG.R.nil L _
theorem ie.l (hh : ie base v w x h) : h.l = [nu x] := by
 obtain ⟨b, cap, rfl, _⟩ := hh;rfl
theorem ie.off (hh : ie base v w x h) {C : Nat} (hC : C < base) : bm C h.l.length h.A := by
 obtain ⟨b, cap, rfl, _, hb, _⟩ := hh;exact bm.at oM
theorem ie.below (hh : ie base v w x h) (hb : Below w.heap.size w w') : ie base v w' x h := by
 obtain ⟨b, cap, e, hc, h1, h2, h3, hr⟩ := hh;exact ⟨b, cap, e, hc, h1, Nat.lt_of_lt_of_le h2 hb.size, h3, (hr.below hb).more hb.size⟩
theorem ie.app (hh : ie base v w x h) (hs : w.heap.size ≤ w'.heap.size) (hst : ∀ b, b < w.heap.size → v.ownBlock ≠ some b → v'.ownBlock ≠ some b ∧ w'.heap[b]? = w.heap[b]?) : ie base v' w' x h := by
 obtain ⟨b, cap, e, hc, h1, h2, h3, hr⟩ := hh;refine ⟨b, cap, e, hc, h1, Nat.lt_of_lt_of_le h2 hs, (hst b h2 h3).1, (Rd.stay hr (fun _ b' o e2 hb' => ?_)).more hs⟩;injection e2 with e2
 injection e2 with e2 _
 subst e2;exact (hst b h2 h3).2
theorem ie.set {C o : Nat} (hh : ie base v w x h) (hC : C < base) (u : Value) : ie base v (w.setCell ⟨C, o, none⟩ u) x h := by
 obtain ⟨b, cap, e, hc, h1, h2, h3, hr⟩ := hh;refine ⟨b, cap, e, hc, h1, by simpa using h2, h3, ?_⟩;rw [show (w.setCell ⟨C, o, none⟩ u).heap.size = w.heap.size by simp];exact Rd.set_off hr (bm.at oM) u
end
def nC (base : Nat) (v : Value) (w : World) (xs : List W3) (hs : List br) : Prop := hs.length = xs.length ∧ ∀ (j : Nat) (x : W3) (h : br), xs[j]? = some x → hs[j]? = some h → ie base v w x h
theorem nC.map {base : Nat} {v v' : Value} {w w' : World} {xs : List W3} {hs : List br} (h : nC base v w xs hs) (f : ∀ x y, ie base v w x y → ie base v' w' x y) : nC base v' w' xs hs := ⟨h.1, fun j x y hx hy => f _ _ (h.2 j x y hx hy)⟩
theorem nC.snoc {base : Nat} {v : Value} {w : World} {xs : List W3} {hs : List br} {x : W3} {y : br} (h : nC base v w xs hs) (hn : ie base v w x y) : nC base v w (xs ++ [x]) (hs ++ [y]) := by
 refine ⟨by simp [h.1], fun j a b ha hb => ?_⟩;by_cases hj : j < xs.length
 ·rw [List.getElem?_append_left hj] at ha;rw [List.getElem?_append_left (by rw [h.1]; exact hj)] at hb;exact h.2 j a b ha hb
 ·rw [List.getElem?_append_right oM] at ha;rw [List.getElem?_append_right (by rw [h.1]; omega), h.1] at hb;by_cases h0 : j - xs.length = 0
  ·rw [h0] at ha hb;simp at ha hb;subst ha hb;exact hn
  ·rw [List.getElem?_eq_none (by simp; omega)] at ha;cases ha
end Go.Proofs.YtapjfhbonfehpaaGreatDoor
namespace Go.Proofs.YtapjfhbonfehpaaGreatDoor
open Go.RowKit
theorem Lj : (Tryz.prog.info? 56).map (fun i => (i.zero, i.size, i.bytes)) = some (some (.agg #[.int .i64 0, .int .u32 0, .int .u32 0]), 3, 16) := by kernel_rfl
theorem DW (A : Option Addr) (n cap : Nat) (xs : List Value) (w : World) (hr : Rd w w.heap.size 3 A n xs) (hA : A = none → n = 0) (h1 : ∀ u ∈ xs, u.oneCell' = true) (hn : n ≤ 1000000) :
  Calls Tryz.prog 20 #[.slice A n cap] w fun e w' => ∃ A' cap', e = .returned (.slice A' n cap') ∧ w'.ownsRow w.heap.size 56 3 (.slice A' n cap') n xs ∧ Below w.heap.size w w' := by
 obtain ⟨i0, hi0, ki, jz1, kh⟩ := info_parts Lj;have hi := aa hi0;have fF := aa ki;have fw := aa jz1;have fD := aa kh;clear hi0 ki jz1 kh;have Hr := aa hr;have H1 := aa h1;cases A with
 | none =>
  obtain rfl : n = 0 := hA rfl;have hx : xs = [] := List.eq_nil_of_length_eq_zero (by simpa using hr.1);subst hx;have heq : ∀ W : World, (binOp .eql 25 (.slice none 0 cap) (.slice none 0 0)).run Tryz.prog W = .ok (.bool true) W := fun W => by kernel_rfl
  clear hr hA;go_enter Tryz.func20, Tryz.ntmps20;go_wp2_with fail;go_ret;exact ⟨none, 0, rfl, World.ownsRow_nil _ _ _ _, ae⟩
 | some a =>
  have heq : ∀ W : World, (binOp .eql 25 (.slice (some a) n cap) (.slice none 0 0)).run Tryz.prog W = .ok (.bool false) W := fun W => by kernel_rfl
  clear hr hA h1;go_enter Tryz.func20, Tryz.ntmps20;go_wp2_with (first
   | (at_builtin; refine aK rfl _ _ 25 rfl w.heap.size 56 i0 _ 3 16 Tryz.underlying25 hi.out fF.out fw.out fD.out rfl dM (.slice (some ⟨w.heap.size, 0, none⟩) 0 0) 0 [] rfl (World.ownsRow_made w #[] 0 (Nat.le_refl _) (Nat.zero_le _) rfl) (some a) n cap xs rfl w.heap.size (Hr.out.below ae) H1.out (by unfold maxLen; omega) oM sM w.heap.size w ae (Nat.le_refl _) ?_; intro v' w6 aW hb6 lL))
  rw [Nat.zero_add, List.nil_append] at aW;obtain ⟨A', cap', rfl, hcp, hbl⟩ := aX aW;go_wp2_with fail;go_ret;exact ⟨A', cap', rfl, aW, ae⟩
theorem Lm : (Tryz.prog.info? 3).map (fun i => (i.zero, i.size, i.bytes)) = some (some (.int .i64 0), 1, 8) := by kernel_rfl
theorem DX (A : Option Addr) (n cap : Nat) (xs : List Value) (w : World) (hr : Rd w w.heap.size 1 A n xs) (hA : A = none → n = 0) (h1 : ∀ u ∈ xs, u.oneCell' = true) (hn : n ≤ 1000000) :
  Calls Tryz.prog 55 #[.slice A n cap] w fun e w' => ∃ A' cap', e = .returned (.slice A' n cap') ∧ w'.ownsRow w.heap.size 3 1 (.slice A' n cap') n xs ∧ Below w.heap.size w w' := by
 obtain ⟨i0, hi0, ki, jz1, kh⟩ := info_parts Lm;have hi := aa hi0;have fF := aa ki;have fw := aa jz1;have fD := aa kh;clear hi0 ki jz1 kh;have Hr := aa hr;have H1 := aa h1;cases A with
 | none =>
  obtain rfl : n = 0 := hA rfl;have hx : xs = [] := List.eq_nil_of_length_eq_zero (by simpa using hr.1);subst hx;have heq : ∀ W : World, (binOp .eql 47 (.slice none 0 cap) (.slice none 0 0)).run Tryz.prog W = .ok (.bool true) W := fun W => by kernel_rfl
  clear hr hA;go_enter Tryz.func55, Tryz.ntmps55;go_wp2_with fail;go_ret;exact ⟨none, 0, rfl, World.ownsRow_nil _ _ _ _, ae⟩
 | some a =>
  have heq : ∀ W : World, (binOp .eql 47 (.slice (some a) n cap) (.slice none 0 0)).run Tryz.prog W = .ok (.bool false) W := fun W => by kernel_rfl
  clear hr hA h1;go_enter Tryz.func55, Tryz.ntmps55;go_wp2_with (first
   | (at_builtin; refine aK rfl _ _ 47 rfl w.heap.size 3 i0 _ 1 8 Tryz.underlying47 hi.out fF.out fw.out fD.out rfl dM (.slice (some ⟨w.heap.size, 0, none⟩) 0 0) 0 [] rfl (World.ownsRow_made w #[] 0 (Nat.le_refl _) (Nat.zero_le _) rfl) (some a) n cap xs rfl w.heap.size (Hr.out.below ae) H1.out (by unfold maxLen; omega) oM sM w.heap.size w ae (Nat.le_refl _) ?_; intro v' w6 aW hb6 lL))
  rw [Nat.zero_add, List.nil_append] at aW;obtain ⟨A', cap', rfl, hcp, hbl⟩ := aX aW;go_wp2_with fail;go_ret;exact ⟨A', cap', rfl, aW, ae⟩
theorem Ll : (Tryz.prog.info? 182).map (fun i => (i.zero, i.size, i.bytes)) = some (some (.agg #[.slice none 0 0, .int .i64 0]), 2, 32) := by kernel_rfl
theorem yE (A : Option Addr) (n cap : Nat) (xs : List Value) (w : World) (hr : Rd w w.heap.size 2 A n xs) (hA : A = none → n = 0) (h1 : ∀ u ∈ xs, u.oneCell' = true) (hn : n ≤ 1000000) :
  Calls Tryz.prog 108 #[.slice A n cap] w fun e w' => ∃ A' cap', e = .returned (.slice A' n cap') ∧ w'.ownsRow w.heap.size 182 2 (.slice A' n cap') n xs ∧ Below w.heap.size w w' := by
 obtain ⟨i0, hi0, ki, jz1, kh⟩ := info_parts Ll;have hi := aa hi0;have fF := aa ki;have fw := aa jz1;have fD := aa kh;clear hi0 ki jz1 kh;have Hr := aa hr;have H1 := aa h1;cases A with
 | none =>
  obtain rfl : n = 0 := hA rfl;have hx : xs = [] := List.eq_nil_of_length_eq_zero (by simpa using hr.1);subst hx;have heq : ∀ W : World, (binOp .eql 91 (.slice none 0 cap) (.slice none 0 0)).run Tryz.prog W = .ok (.bool true) W := fun W => by kernel_rfl
  clear hr hA;go_enter Tryz.func108, Tryz.ntmps108;go_wp2_with fail;go_ret;exact ⟨none, 0, rfl, World.ownsRow_nil _ _ _ _, ae⟩
 | some a =>
  have heq : ∀ W : World, (binOp .eql 91 (.slice (some a) n cap) (.slice none 0 0)).run Tryz.prog W = .ok (.bool false) W := fun W => by kernel_rfl
  clear hr hA h1;go_enter Tryz.func108, Tryz.ntmps108;go_wp2_with (first
   | (at_builtin; refine aK rfl _ _ 91 rfl w.heap.size 182 i0 _ 2 32 Tryz.underlying91 hi.out fF.out fw.out fD.out rfl dM (.slice (some ⟨w.heap.size, 0, none⟩) 0 0) 0 [] rfl (World.ownsRow_made w #[] 0 (Nat.le_refl _) (Nat.zero_le _) rfl) (some a) n cap xs rfl w.heap.size (Hr.out.below ae) H1.out (by unfold maxLen; omega) oM sM w.heap.size w ae (Nat.le_refl _) ?_; intro v' w6 aW hb6 lL))
  rw [Nat.zero_add, List.nil_append] at aW;obtain ⟨A', cap', rfl, hcp, hbl⟩ := aX aW;go_wp2_with fail;go_ret;exact ⟨A', cap', rfl, aW, ae⟩
end Go.Proofs.YtapjfhbonfehpaaGreatDoor
namespace Go.Proofs.YtapjfhbonfehpaaGreatDoor
open Go.RowKit Go.Maps
structure eQ where
 A : Option Addr
 cap : Nat
 l : List (Int × W3)
 kept : Int
def gD (p : Int × W3) : List Value := [.int .i64 p.1, .int .i64 p.2.v, .int .u32 p.2.r, .int .u32 p.2.f]
theorem BA (p : Int × W3) : (gD p).length = 4 := rfl
def gu (g : eQ) : List Value := [.slice g.A g.l.length g.cap, .int .i64 g.kept]
theorem gX (g : eQ) : (gu g).length = 2 := rfl
def eQ.R (w : World) (g : eQ) : Prop := g.l.length ≤ g.cap ∧ (g.A = none → g.l.length = 0) ∧ Rd w w.heap.size 4 g.A g.l.length (g.l.flatMap gD)
structure aO where
 fA : Option Addr
 fc : Nat
 first : List W3
 lA : Option Addr
 lc : Nat
 logs : List eQ
 asks : Option Nat
def aO.R (w : World) (m : aO) : Prop := (m.first.length ≤ m.fc ∧ (m.fA = none → m.first.length = 0) ∧ Rd w w.heap.size 3 m.fA m.first.length (m.first.flatMap ig)) ∧ (m.logs.length ≤ m.lc ∧ (m.lA = none → m.logs.length = 0) ∧ Rd w w.heap.size 2 m.lA m.logs.length (m.logs.flatMap gu) ∧ ∀ g ∈ m.logs, g.R w)
theorem eQ.R.below {w w' : World} {g : eQ} (h : g.R w) (hb : Below w.heap.size w w') : g.R w' := ⟨h.1, h.2.1, (h.2.2.below hb).more hb.size⟩
theorem aO.R.below {w w' : World} {m : aO} (h : m.R w) (hb : Below w.heap.size w w') : m.R w' :=
 ⟨⟨h.1.1, h.1.2.1, (h.1.2.2.below hb).more hb.size⟩, h.2.1, h.2.2.1, (h.2.2.2.1.below hb).more hb.size, fun g hg => (h.2.2.2.2 g hg).below hb⟩
def aO.off (C : Nat) (m : aO) : Prop := bm C m.first.length m.fA ∧ bm C m.logs.length m.lA ∧ ∀ g ∈ m.logs, bm C g.l.length g.A
theorem aO.off_new {w : World} {m : aO} {C : Nat} (h : m.R w) (hC : w.heap.size ≤ C) : m.off C :=
 ⟨bm.new h.1.2.2 hC, bm.new h.2.2.2.1 hC, fun x hx => bm.new (h.2.2.2.2 x hx).2.2 hC⟩
theorem eQ.R.set {w : World} {g : eQ} {C o : Nat} (h : g.R w) (hoff : bm C g.l.length g.A) (x : Value) : g.R (w.setCell ⟨C, o, none⟩ x) := by
 refine ⟨h.1, h.2.1, ?_⟩;rw [show (w.setCell ⟨C, o, none⟩ x).heap.size = w.heap.size by simp];exact Rd.set_off h.2.2 hoff x
theorem aO.R.set {w : World} {m : aO} {C o : Nat} (h : m.R w) (hoff : m.off C) (x : Value) : m.R (w.setCell ⟨C, o, none⟩ x) := by
 have es : (w.setCell ⟨C, o, none⟩ x).heap.size = w.heap.size := by simp
 refine ⟨⟨h.1.1, h.1.2.1, ?_⟩, h.2.1, h.2.2.1, ?_, fun y hy => (h.2.2.2.2 y hy).set (hoff.2.2 y hy) x⟩
 ·rw [es]; exact Rd.set_off h.1.2.2 hoff.1 x
 ·rw [es]; exact Rd.set_off h.2.2.2.1 hoff.2.1 x
theorem Rd.setAt {w : World} {B size n b off i : Nat} {xs : List Value} (h : Rd w B size (some ⟨b, off, none⟩) n xs) (hi : i < xs.length) (u : Value) : Rd (w.setCell ⟨b, off + i, none⟩ u) B size (some ⟨b, off, none⟩) n (xs.set i u) := by
 refine ⟨by rw [List.length_set]; exact h.1, fun hn => ?_⟩;obtain ⟨b', off', e, hB, hc⟩ := h.2 hn;injection e with e
 injection e with e1 e2
 subst e1 e2;refine ⟨b, off, rfl, hB, fun j v hv => ?_⟩;rw [List.getElem?_set] at hv;by_cases hj : i = j
 ·subst hj;rw [if_pos rfl, if_pos hi] at hv;injection hv with hv
  subst hv;exact World.cell?_setCell_same _ _ _ (hc i _ (List.getElem?_eq_getElem hi))
 ·rw [if_neg hj] at hv;rw [World.cell?_setCell_other _ _ _ _ (by intro e; injection e with _ e; omega)];exact hc j v hv
theorem mG {α β : Type} {s : Nat} {g : α → List β} (hg : ∀ a, (g a).length = s) : ∀ (l : List α) (j i : Nat) (a a' : α) (v : β), l[j]? = some a → i < s → g a' = (g a).set i v → (l.flatMap g).set (j * s + i) v = (l.set j a').flatMap g
 | [], j, i, a, a', v, h, _, _ => by simp at h
 | b :: l, 0, i, a, a', v, h, hi, he => by
  simp only [List.getElem?_cons_zero, Option.some.injEq] at h;subst h;simp only [List.flatMap_cons, Nat.zero_mul, Nat.zero_add, List.set_cons_zero];rw [List.set_append_left _ _ (by rw [hg]; exact hi), he]
 | b :: l, j + 1, i, a, a', v, h, hi, he => by
  simp only [List.getElem?_cons_succ] at h;simp only [List.flatMap_cons, List.set_cons_succ];rw [List.set_append_right _ _ (by rw [hg, Nat.succ_mul]; omega), hg, show (j + 1) * s + i - s = j * s + i by rw [Nat.succ_mul]; omega, mG hg l j i a a' v h hi he]
theorem fQ {w : World} {base size n cap g : Nat} {e : TypeId} {xs : List Value} (h : w.ownsRow base e size (.slice (some ⟨g, 0, none⟩) n cap) n xs) : (∀ i v, xs[i]? = some v → w.cell? ⟨g, i, none⟩ = some v) ∧ (∀ o, w.frozen? ⟨g, o, none⟩ = false) := by
 obtain ⟨hl, h⟩ := h;rcases h with ⟨e1, _⟩ | ⟨g', cap', cur, e1, hb, hg, _, _, _, ht⟩
 ·cases e1
 ·injection e1 with e1 _ _
  injection e1 with e1
  injection e1 with e1 _
  subst e1;refine ⟨fun i v hv => ?_, fun o => by simp [World.frozen?, hg]⟩;rw [← ht] at hv;have hi := (List.getElem?_eq_some_iff.1 hv).1;rw [List.length_take] at hi;rw [List.getElem?_take_of_lt oM] at hv;simp only [World.cell?, hg];simpa using hv
theorem zT (m : aO) (k : Nat) (w : World) (hk : k < m.first.length) : Calls Tryz.prog 105 #[(.agg #[.slice (m).fA (m).first.length (m).fc, .slice (m).lA (m).logs.length (m).lc, .map (m).asks]), .int .i64 k] w (cd (.bool true) w) := by
 have h0 : (0 : Int) ≤ k := by omega
 have h1 : (k : Int) < (m.first.length : Int) := by omega
 go_enter Tryz.func105, Tryz.ntmps105;go_wp2_with fail;all_goals first
  | (go_ret; exact ⟨rfl, ae⟩)
  | (exfalso; omega)
theorem oO (A : Option Addr) (m cp : Nat) (w : World) (h : m ≤ cp) :
  Calls Tryz.prog 113 #[.slice A m cp] w fun e w' => e = .returned (.slice A m m) ∧ w = w' := by
 go_enter Tryz.func113, Tryz.ntmps113
 go_wp2
 all_goals go_ret
 all_goals exact ⟨rfl, rfl⟩
theorem Co : (Tryz.prog.info? 184).map (fun i => (i.zero, i.size, i.bytes)) = some (some (.agg #[.int .i64 0, .int .i64 0, .int .u32 0, .int .u32 0]), 4, 24) := by kernel_rfl
theorem Cl (m : aO) (k : Nat) (g : eQ) (x : W3) (w : World) (hR : m.R w) (hk : k < m.first.length) (hg : m.logs[k / 8]? = some g) (hn : m.first.length ≤ 4096) (hl : m.logs.length ≤ 4096) (pN : g.l.length ≤ 1000000) :
  Calls Tryz.prog 103 #[(.agg #[.slice (m).fA (m).first.length (m).fc, .slice (m).lA (m).logs.length (m).lc, .map (m).asks]), .int .i64 k, (qg x)] w fun e w' => ∃ g1 dU g2 cap', e = .returned (.tuple #[.agg #[.slice m.fA m.first.length m.fc, .slice (some ⟨g1, 0, none⟩) m.logs.length dU, .map m.asks], .int .i64 0]) ∧ w.heap.size ≤ g1 ∧ w.heap.size ≤ g2 ∧ aO.R w' ⟨m.fA, m.fc, m.first, some ⟨g1, 0, none⟩, dU, m.logs.set (k / 8) ⟨some ⟨g2, 0, none⟩, cap', g.l ++ [((k : Int), x)], g.kept⟩, m.asks⟩ ∧ Below w.heap.size w w' := by
 obtain ⟨i0, hi0, ki, jz1, kh⟩ := info_parts Co;have hi := aa hi0;have fF := aa ki;have fw := aa jz1;have fD := aa kh;clear hi0 ki jz1 kh;have hj : k / 8 < m.logs.length := (List.getElem?_eq_some_iff.1 hg).1;have IX := aa (hR.2.2.2.2 g (List.mem_of_getElem? hg));have hhas := fun W => zT m k W hk;have rT : ∀ u ∈ m.logs.flatMap gu, u.oneCell' = true := by
  intro u hu;obtain ⟨y, -, hy⟩ := List.mem_flatMap.1 hu;simp [gu] at hy;rcases hy with rfl | rfl <;> rfl
 have hcl := fun W (hw : Rd W W.heap.size 2 m.lA m.logs.length (m.logs.flatMap gu)) => yE m.lA m.logs.length m.lc (m.logs.flatMap gu) W hw hR.2.2.1 rT oM;have Ns := aa hR.2.2.2.1;have HR := aa hR;have F4 := aa hhas;have vU := aa hcl;have Hg := aa hg;have Hj := aa hj;obtain ⟨fA, fc, first, lA, lc, logs, asks⟩ := m;simp only at hj hn hl hk F4 vU Ns;have hj0 : (0 : Int) ≤ ((k / 8 : Nat) : Int) := by omega
 have hj1 : ((k / 8 : Nat) : Int) < (logs.length : Int) := by omega
 clear hR hhas rT hcl hg;go_enter Tryz.func103, Tryz.ntmps103;go_wp2_with (first
  | (go_at_call 105; refine rB (F4.out _) ?_; intro w1 hb1 ar aA hs1; (try simp at hs1); have E5 := zL w.heap.size w1; have Iw := zL (w.heap.size + 1) w1; have Si := zL (w.heap.size + 1 + 1) w1)
  | (go_at_call 108; refine (vU.out _ ((Ns.out.below ae).more oM)).mono ?_; rintro e w2 ⟨A', dU, rfl, iN, hb2⟩; obtain ⟨g1, lc1, hA1, aba, hg1, hr1⟩ := bJ iN oM; injection hA1 with hA1 _ hA2; subst hA1 hA2; obtain ⟨TF, abl⟩ := fQ iN; obtain ⟨aH, aL, hs2⟩ := bC hb2; (try simp at hs2); (try simp at hg1); have vG := zL w.heap.size w2; have vF := zL (w.heap.size + 1) w2; have E4 := zL (w.heap.size + 1 + 1) w2; have acW := aa iN; have acj := aa TF; have QH := aa hr1; clear iN TF hr1; have q0 : w2.cell? ⟨w.heap.size, 0, none⟩ = some (.slice fA first.length fc) := (by go_simp); have q1 : w2.cell? ⟨w.heap.size, 1, none⟩ = some (.slice lA logs.length lc) := (by go_simp); have q2 : w2.cell? ⟨w.heap.size, 2, none⟩ = some (.map asks) := (by go_simp); have x0 : w2.cell? ⟨w.heap.size + 1, 0, none⟩ = some (.int .i64 x.v) := (by go_simp); have x1 : w2.cell? ⟨w.heap.size + 1, 1, none⟩ = some (.int .u32 x.r) := (by go_simp); have x2 : w2.cell? ⟨w.heap.size + 1, 2, none⟩ = some (.int .u32 x.f) := (by go_simp); have r0 : w2.cell? ⟨w.heap.size + 1 + 1, 0, none⟩ = some (.slice none 0 0) := (by go_simp); have r1 : w2.cell? ⟨w.heap.size + 1 + 1, 1, none⟩ = some (.slice none 0 0) := (by go_simp); have r2 : w2.cell? ⟨w.heap.size + 1 + 1, 2, none⟩ = some (.map none) := (by go_simp); have f0 : ∀ o, w2.frozen? ⟨w.heap.size, o, none⟩ = false := (by intro o; go_simp); have f1 : ∀ o, w2.frozen? ⟨w.heap.size + 1 + 1, o, none⟩ = false := (by intro o; go_simp); have hBw2 : Below w.heap.size w w2 := (ae); clear ar aA aH aL hb1 hb2))
 have RU : ¬ w.heap.size = g1 := by omega
 have ng1 : ¬ w.heap.size + 1 = g1 := by omega
 have RR : ¬ w.heap.size + 1 + 1 = g1 := by omega
 have aas : w.heap.size ≠ g1 := RU;have hkc := dn gX logs (k / 8) g Hg.out 0 oM;have k0 : w2.cell? ⟨g1, k / 8 * 2, none⟩ = some (.slice g.A g.l.length g.cap) := acj.out _ _ hkc;clear hkc;obtain ⟨w3, hw3⟩ : ∃ W : World, W = (w2.setCell ⟨w.heap.size, 1, none⟩ (.slice (some ⟨g1, 0, none⟩) logs.length dU)) := ⟨_, rfl⟩;have es3 : w2.heap.size ≤ w3.heap.size := by rw [hw3]; simp
 have kk0 := cR hw3 g1 (k / 8 * 2) (.slice g.A g.l.length g.cap);have kq0 := cR hw3 w.heap.size 0 (.slice fA first.length fc);have kq1 := cR hw3 w.heap.size 1 (.slice (some ⟨g1, 0, none⟩) logs.length dU);have kq2 := cR hw3 w.heap.size 2 (.map asks);have V8 := cJ hw3 (w.heap.size + 1) 0 x.v;have V7 := cR hw3 (w.heap.size + 1) 1 (.int .u32 x.r);have V6 := cR hw3 (w.heap.size + 1) 2 (.int .u32 x.f);have Qi := cR hw3 (w.heap.size + 1 + 1) 0 (.slice none 0 0);have Qh := cR hw3 (w.heap.size + 1 + 1) 1 (.slice none 0 0);have Qg := cR hw3 (w.heap.size + 1 + 1) 2 (.map none);have kf0 := fR hw3 w.heap.size;have kf1 := fR hw3 (w.heap.size + 1 + 1);have kfg := fR hw3 g1;have hBw3 : Below w.heap.size w w3 := by rw [hw3]; exact ae
 have Hr3 : Hid (Rd w3 w3.heap.size 2 (some ⟨g1, 0, none⟩) logs.length (logs.flatMap gu)) := aa (by rw [hw3]; exact Rd.more (Rd.set_off QH.out (bm.at (fun e => RU e.symm)) _) sM);have OH : g1 < w3.heap.size := cB kk0;rw [← hw3];clear hw3 k0 q0 q1 q2 x0 x1 x2 r0 r1 r2 f0 f1 abl;have lK := zL w.heap.size w3;have zY := zL (w.heap.size + 1) w3;have hz32 := zL (w.heap.size + 1 + 1) w3;have IW := aa IX.out.1;have OI := aa IX.out.2.2;have Qp := aa IX.out.2.1;refine wp_region_held_drew (S := (fun w' => w'.cell? ⟨w.heap.size + 1, 0, none⟩ = some (.int .i64 x.v) ∧ w'.cell? ⟨w.heap.size + 1, 1, none⟩ = some (.int .u32 x.r) ∧ w'.cell? ⟨w.heap.size + 1, 2, none⟩ = some (.int .u32 x.f))) kR oZ (fun hHeld => ?_);refine az 0 ?_;refine az 1 ?_;refine az 2 ?_;refine az 3 ?_;refine az 6 ?_;refine az 7 ?_;refine az 8 ?_;refine wR (rs := [4, 9]) ?_;focus
  refine aI (fun K hK => ?_) (aE fun K hK => ?_);focus
   go_simp;go_wp2_with fail;refine oK hK oZ fun hHeld => ?_;clear hK K;refine wR (rs := [5, 9]) ?_;refine aI (fun K hK => ?_) (aE fun K hK => ?_);focus
    go_simp;(go_at_call 113; refine (oO g.A g.l.length g.cap _ IW.out).mono ?_; rintro e w4 ⟨rfl, rfl⟩);go_wp2_with fail;refine oK hK oZ fun hHeld => ?_;clear hK K;refine wE 9 fun K hK => ?_;go_simp;go_wp2_with fail;refine oK hK oZ fun hHeld => ?_;clear hK K;refine wE 10 fun K hK => ?_;refine dA (.tmp 28) (.tmp 32) 180 rfl 184 i0 _ 4 24 Tryz.underlying180 hi.out fF.out fw.out fD.out rfl w.heap.size g.A g.l.length (g.l.flatMap gD) (by simp [Act.eval, Act.put]) (OI.out.below ae) Qp.out ⟨w3.heap.size, 0, none⟩ 1 (gD ((k : Int), x)) (by simp [Act.eval, Act.put]) rfl ?_ (by unfold maxLen; omega) oM ?_; (focus (intro j u hu; refine bq _ _ _ sM ?_; simpa [gD] using hu)); intro uX w5 ym bU lF; (try simp at lF); have qR : Below w3.heap.size w3 w5 := (Below.drew (Below.alloc (Below.refl w3.heap.size w3) (Nat.le_refl _) _)).trans (bU.mono sM); have hs5 := qR.size; have Kl : ∀ x o, x < w3.heap.size → w5.cell? ⟨x, o, none⟩ = w3.cell? ⟨x, o, none⟩ := (fun x o hx => qR.cell (p := ⟨x, o, none⟩) hx); have Wp : ∀ x o, x < w3.heap.size → w5.frozen? ⟨x, o, none⟩ = w3.frozen? ⟨x, o, none⟩ := (fun x o hx => qR.frozen (p := ⟨x, o, none⟩) hx);(try go_simp);go_wp2_with fail;refine oK hK oZ fun hHeld => ?_;clear hK K;refine az 11 ?_;refine az 12 ?_;refine wE 13 fun K hK => ?_;go_simp;go_wp2_with fail;refine oK hK oZ fun hHeld => ?_;clear hK K;refine wD ?_
   rotate_left 1;focus
    go_simp;go_wp2_with fail;refine oK hK oZ fun hHeld => ?_;clear hK K;refine wE 5 fun K hK => ?_;go_simp;(go_at_call 113; refine (oO g.A g.l.length g.cap _ IW.out).mono ?_; rintro e w4 ⟨rfl, rfl⟩);go_wp2_with fail;refine oK hK oZ fun hHeld => ?_;clear hK K;refine wE 10 fun K hK => ?_;refine dA (.tmp 28) (.tmp 32) 180 rfl 184 i0 _ 4 24 Tryz.underlying180 hi.out fF.out fw.out fD.out rfl w.heap.size g.A g.l.length (g.l.flatMap gD) (by simp [Act.eval, Act.put]) (OI.out.below ae) Qp.out ⟨w3.heap.size, 0, none⟩ 1 (gD ((k : Int), x)) (by simp [Act.eval, Act.put]) rfl ?_ (by unfold maxLen; omega) oM ?_; (focus (intro j u hu; refine bq _ _ _ sM ?_; simpa [gD] using hu)); intro uX w5 ym bU lF; (try simp at lF); have qR : Below w3.heap.size w3 w5 := (Below.drew (Below.alloc (Below.refl w3.heap.size w3) (Nat.le_refl _) _)).trans (bU.mono sM); have hs5 := qR.size; have Kl : ∀ x o, x < w3.heap.size → w5.cell? ⟨x, o, none⟩ = w3.cell? ⟨x, o, none⟩ := (fun x o hx => qR.cell (p := ⟨x, o, none⟩) hx); have Wp : ∀ x o, x < w3.heap.size → w5.frozen? ⟨x, o, none⟩ = w3.frozen? ⟨x, o, none⟩ := (fun x o hx => qR.frozen (p := ⟨x, o, none⟩) hx);(try go_simp);go_wp2_with fail;refine oK hK oZ fun hHeld => ?_;clear hK K;refine az 11 ?_;refine az 12 ?_;refine wE 13 fun K hK => ?_;go_simp;go_wp2_with fail;refine oK hK oZ fun hHeld => ?_;clear hK K;refine wD ?_
   rotate_left 1
  rotate_left 2;focus
   go_simp;go_wp2_with fail;refine oK hK oZ fun hHeld => ?_;clear hK K;refine wE 4 fun K hK => ?_;go_simp;go_wp2_with fail;refine oK hK oZ fun hHeld => ?_;clear hK K;refine wE 5 fun K hK => ?_;go_simp;(go_at_call 113; refine (oO g.A g.l.length g.cap _ IW.out).mono ?_; rintro e w4 ⟨rfl, rfl⟩);go_wp2_with fail;refine oK hK oZ fun hHeld => ?_;clear hK K;refine wE 10 fun K hK => ?_;refine dA (.tmp 28) (.tmp 32) 180 rfl 184 i0 _ 4 24 Tryz.underlying180 hi.out fF.out fw.out fD.out rfl w.heap.size g.A g.l.length (g.l.flatMap gD) (by simp [Act.eval, Act.put]) (OI.out.below ae) Qp.out ⟨w3.heap.size, 0, none⟩ 1 (gD ((k : Int), x)) (by simp [Act.eval, Act.put]) rfl ?_ (by unfold maxLen; omega) oM ?_; (focus (intro j u hu; refine bq _ _ _ sM ?_; simpa [gD] using hu)); intro uX w5 ym bU lF; (try simp at lF); have qR : Below w3.heap.size w3 w5 := (Below.drew (Below.alloc (Below.refl w3.heap.size w3) (Nat.le_refl _) _)).trans (bU.mono sM); have hs5 := qR.size; have Kl : ∀ x o, x < w3.heap.size → w5.cell? ⟨x, o, none⟩ = w3.cell? ⟨x, o, none⟩ := (fun x o hx => qR.cell (p := ⟨x, o, none⟩) hx); have Wp : ∀ x o, x < w3.heap.size → w5.frozen? ⟨x, o, none⟩ = w3.frozen? ⟨x, o, none⟩ := (fun x o hx => qR.frozen (p := ⟨x, o, none⟩) hx);(try go_simp);go_wp2_with fail;refine oK hK oZ fun hHeld => ?_;clear hK K;refine az 11 ?_;refine az 12 ?_;refine wE 13 fun K hK => ?_;go_simp;go_wp2_with fail;refine oK hK oZ fun hHeld => ?_;clear hK K;refine wD ?_
  rotate_left 1
 all_goals have q05 := (Kl _ 0 lK).trans kq0
 all_goals have q15 := (Kl _ 1 lK).trans kq1
 all_goals have q25 := (Kl _ 2 lK).trans kq2
 all_goals have r05 := (Kl _ 0 hz32).trans Qi
 all_goals have r15 := (Kl _ 1 hz32).trans Qh
 all_goals have r25 := (Kl _ 2 hz32).trans Qg
 all_goals have kk5 := (Kl _ (k / 8 * 2) OH).trans kk0
 all_goals have f15 : ∀ o, w5.frozen? ⟨w.heap.size + 1 + 1, o, none⟩ = false := fun o => (Wp _ o hz32).trans (kf1 o)
 all_goals clear Kl Wp kq0 kq1 kq2 Qi Qh Qg kk0 kf0 kf1 kfg V8 V7 V6
 all_goals go_wp2_with fail
 all_goals have nw0 : w.heap.size + 1 + 1 ≠ w3.heap.size + 1 := by omega
 all_goals have nw1 : g1 ≠ w3.heap.size + 1 := by omega
 all_goals have hgw1 : w.heap.size ≤ g1 := by omega
 all_goals have abe : w.heap.size ≤ w3.heap.size + 1 := by omega
 all_goals have Xb : Hid (Below w.heap.size w ((((w5.setCell ⟨g1, k / 8 * 2, none⟩ (.slice (some ⟨w3.heap.size + 1, 0, none⟩) (g.l.length + 1) uX)).setCell ⟨w.heap.size + 1 + 1, 0, none⟩ (.slice fA first.length fc)).setCell ⟨w.heap.size + 1 + 1, 1, none⟩ (.slice (some ⟨g1, 0, none⟩) logs.length dU)).setCell ⟨w.heap.size + 1 + 1, 2, none⟩ (.map asks))) := aa (Below.setCell (Below.setCell (Below.setCell (Below.setCell (hBw3.trans (qR.mono oM)) hgw1 _) ko _) ko _) ko _)
 all_goals have iM : w5.ownsRow (w3.heap.size + 1) 184 4 (.slice (some ⟨w3.heap.size + 1, 0, none⟩) (g.l.length + 1) uX) (g.l.length + 1) (g.l.flatMap gD ++ gD ((k : Int), x)) := by simpa using ym.out
 all_goals obtain ⟨WF, cq, hq, OM, -, S0⟩ := bJ iM oM
 all_goals injection hq with hq _ hq2
 all_goals injection hq with hq
 all_goals injection hq with hq _
 all_goals subst hq hq2
 all_goals have hrl : Rd ((((w5.setCell ⟨g1, k / 8 * 2, none⟩ (.slice (some ⟨w3.heap.size + 1, 0, none⟩) (g.l.length + 1) uX)).setCell ⟨w.heap.size + 1 + 1, 0, none⟩ (.slice fA first.length fc)).setCell ⟨w.heap.size + 1 + 1, 1, none⟩ (.slice (some ⟨g1, 0, none⟩) logs.length dU)).setCell ⟨w.heap.size + 1 + 1, 2, none⟩ (.map asks)) ((((w5.setCell ⟨g1, k / 8 * 2, none⟩ (.slice (some ⟨w3.heap.size + 1, 0, none⟩) (g.l.length + 1) uX)).setCell ⟨w.heap.size + 1 + 1, 0, none⟩ (.slice fA first.length fc)).setCell ⟨w.heap.size + 1 + 1, 1, none⟩ (.slice (some ⟨g1, 0, none⟩) logs.length dU)).setCell ⟨w.heap.size + 1 + 1, 2, none⟩ (.map asks)).heap.size 2 (some ⟨g1, 0, none⟩) logs.length ((logs.set (k / 8) ⟨some ⟨w3.heap.size + 1, 0, none⟩, uX, g.l ++ [((k : Int), x)], g.kept⟩).flatMap gu) := by
            have h1 : (w5.setCell ⟨g1, 0 + k / 8 * 2, none⟩ (.slice (some ⟨w3.heap.size + 1, 0, none⟩) (g.l.length + 1) uX)).heap.size = w5.heap.size := (by simp);have hlen : k / 8 * 2 + 0 < (logs.flatMap gu).length := (by rw [Hr3.out.1]; have := Hj.out; omega);have h2 := Rd.setAt (Hr3.out.below qR) (i := k / 8 * 2 + 0) hlen (.slice (some ⟨w3.heap.size + 1, 0, none⟩) (g.l.length + 1) uX);rw [mG gX logs (k / 8) 0 g ⟨some ⟨w3.heap.size + 1, 0, none⟩, uX, g.l ++ [((k : Int), x)], g.kept⟩ (.slice (some ⟨w3.heap.size + 1, 0, none⟩) (g.l.length + 1) uX) Hg.out oM (by simp [gu]), Nat.zero_add, Nat.add_zero] at h2;exact Rd.more (Rd.set_off (Rd.set_off (Rd.set_off h2 (bm.at (fun e => RR e.symm)) _) (bm.at (fun e => RR e.symm)) _) (bm.at (fun e => RR e.symm)) _) (by simp; exact hs5)
 all_goals have hrn : eQ.R ((((w5.setCell ⟨g1, k / 8 * 2, none⟩ (.slice (some ⟨w3.heap.size + 1, 0, none⟩) (g.l.length + 1) uX)).setCell ⟨w.heap.size + 1 + 1, 0, none⟩ (.slice fA first.length fc)).setCell ⟨w.heap.size + 1 + 1, 1, none⟩ (.slice (some ⟨g1, 0, none⟩) logs.length dU)).setCell ⟨w.heap.size + 1 + 1, 2, none⟩ (.map asks)) ⟨some ⟨w3.heap.size + 1, 0, none⟩, uX, g.l ++ [((k : Int), x)], g.kept⟩ := by
            refine ⟨?_, (fun e => by cases e), ?_⟩
            ·show (g.l ++ [((k : Int), x)]).length ≤ uX;rw [List.length_append]; exact OM
            ·show Rd ((((w5.setCell ⟨g1, k / 8 * 2, none⟩ (.slice (some ⟨w3.heap.size + 1, 0, none⟩) (g.l.length + 1) uX)).setCell ⟨w.heap.size + 1 + 1, 0, none⟩ (.slice fA first.length fc)).setCell ⟨w.heap.size + 1 + 1, 1, none⟩ (.slice (some ⟨g1, 0, none⟩) logs.length dU)).setCell ⟨w.heap.size + 1 + 1, 2, none⟩ (.map asks)) ((((w5.setCell ⟨g1, k / 8 * 2, none⟩ (.slice (some ⟨w3.heap.size + 1, 0, none⟩) (g.l.length + 1) uX)).setCell ⟨w.heap.size + 1 + 1, 0, none⟩ (.slice fA first.length fc)).setCell ⟨w.heap.size + 1 + 1, 1, none⟩ (.slice (some ⟨g1, 0, none⟩) logs.length dU)).setCell ⟨w.heap.size + 1 + 1, 2, none⟩ (.map asks)).heap.size 4 (some ⟨w3.heap.size + 1, 0, none⟩) (g.l ++ [((k : Int), x)]).length ((g.l ++ [((k : Int), x)]).flatMap gD);rw [List.length_append, List.flatMap_append, List.flatMap_cons, List.flatMap_nil, List.append_nil];exact Rd.more (Rd.set_off (Rd.set_off (Rd.set_off (Rd.set_off S0 (bm.at (fun e => nw1 e.symm)) _) (bm.at (fun e => nw0 e.symm)) _) (bm.at (fun e => nw0 e.symm)) _) (bm.at (fun e => nw0 e.symm)) _) sM
 all_goals have HRZ := aa (HR.out.below Xb.out)
 all_goals have HZ : Hid (aO.R ((((w5.setCell ⟨g1, k / 8 * 2, none⟩ (.slice (some ⟨w3.heap.size + 1, 0, none⟩) (g.l.length + 1) uX)).setCell ⟨w.heap.size + 1 + 1, 0, none⟩ (.slice fA first.length fc)).setCell ⟨w.heap.size + 1 + 1, 1, none⟩ (.slice (some ⟨g1, 0, none⟩) logs.length dU)).setCell ⟨w.heap.size + 1 + 1, 2, none⟩ (.map asks)) ⟨fA, fc, first, some ⟨g1, 0, none⟩, dU, logs.set (k / 8) ⟨some ⟨w3.heap.size + 1, 0, none⟩, uX, g.l ++ [((k : Int), x)], g.kept⟩, asks⟩) := aa (by
            refine ⟨HRZ.out.1, ?_, (fun e => by cases e), ?_, fun y hy => ?_⟩
            ·show (logs.set (k / 8) _).length ≤ dU;rw [List.length_set]; exact aba
            ·show Rd ((((w5.setCell ⟨g1, k / 8 * 2, none⟩ (.slice (some ⟨w3.heap.size + 1, 0, none⟩) (g.l.length + 1) uX)).setCell ⟨w.heap.size + 1 + 1, 0, none⟩ (.slice fA first.length fc)).setCell ⟨w.heap.size + 1 + 1, 1, none⟩ (.slice (some ⟨g1, 0, none⟩) logs.length dU)).setCell ⟨w.heap.size + 1 + 1, 2, none⟩ (.map asks)) ((((w5.setCell ⟨g1, k / 8 * 2, none⟩ (.slice (some ⟨w3.heap.size + 1, 0, none⟩) (g.l.length + 1) uX)).setCell ⟨w.heap.size + 1 + 1, 0, none⟩ (.slice fA first.length fc)).setCell ⟨w.heap.size + 1 + 1, 1, none⟩ (.slice (some ⟨g1, 0, none⟩) logs.length dU)).setCell ⟨w.heap.size + 1 + 1, 2, none⟩ (.map asks)).heap.size 2 (some ⟨g1, 0, none⟩) (logs.set (k / 8) ⟨some ⟨w3.heap.size + 1, 0, none⟩, uX, g.l ++ [((k : Int), x)], g.kept⟩).length _;rw [List.length_set]; exact hrl
            ·rcases List.mem_or_eq_of_mem_set hy with hy | rfl
             ·exact HRZ.out.2.2.2.2 y hy
             ·exact hrn)
 all_goals clear hrl hrn HRZ S0 iM
 all_goals refine bodyPost_ret (v := .tuple #[.agg #[.slice fA first.length fc, .slice (some ⟨g1, 0, none⟩) logs.length dU, .map asks], .int .i64 0]) (by simp [results, Tryz.results103, go_sem]; (try go_simp)) rfl ⟨g1, dU, w3.heap.size + 1, uX, rfl, hgw1, abe, ?_, ?_⟩
 all_goals first
  | with_reducible exact HZ.out
  | with_reducible exact Xb.out
end Go.Proofs.YtapjfhbonfehpaaGreatDoor
