/- The arguments of shrink's laws opened: schedules, and the law's predicate. -/
import Derived.Test.YtmpbaanlagmacaaS10
import Derived.Deep.Strs
namespace Go.Proofs.Ytmpbaanlagmacaa
open Go.ChangeShapes Go.WideShapes Go.ChangeAt Go.RowKit Go.Deep

section
variable {H : Type} {enc : TypeId × Value → H} {P : Program} {w : World} {base : Nat} {spare : Nat → Bool} {held : Bool}
/-- A cell that holds a slice of structs of one-cell fields: the raw cells, each field with its own reading. -/
theorem rd_structs_c {t e : TypeId} {fs : Array Field} {u : Value} {y : DataW H × List MemPlace} {fuel : Nat} (ht : P.underlying t = some (.slice e)) (he : P.underlying e = some (.struct fs))
    (hone : oneCellFields P fs = true) (hC : P.cellsOf e = fs.size) (hpos : 0 < fs.size) (hf : DataW.trod enc P w base spare held fuel t [u] = some y) :
    ∃ (A : Option Addr) (n cap : Nat) (xs : List Value), u = .slice A n cap ∧ n ≤ cap ∧ n ≤ maxLen ∧ Rd w w.heap.size fs.size A n xs ∧
      ∀ i, i < n → ∃ m : Nat, ∀ (j : Nat) (f : Field), fs[j]? = some f → ∃ (u : Value) (y : DataW H × List MemPlace), xs[i * fs.size + j]? = some u ∧ DataW.trod enc P w base spare held m f.type [u] = some y := by
  rcases open_slice ht hf with ⟨hcs, hx⟩ | ⟨a, n, cap, m, fu, D, Pl, hcs, hb, hl, hm, hmm, hx, hi⟩
  · injection hcs with hcs _
    subst hcs
    exact ⟨none, 0, 0, [], rfl, Nat.zero_le _, Nat.zero_le _, Rd.nil _ _ _ _, fun i hi => absurd hi (Nat.not_lt_zero i)⟩
  · injection hcs with hcs _
    subst hcs
    have hlen : n ≤ m := by rw [hmm]; split <;> omega
    have key : ∀ i, i < n → ∃ m' : Nat, ∀ (j : Nat) (f : Field), fs[j]? = some f → ∃ (u : Value) (y : DataW H × List MemPlace), w.cell? (a.add (i * fs.size + j)) = some u ∧ DataW.trod enc P w base spare held m' f.type [u] = some y := by
      intro i hin
      obtain ⟨cs', hc, ht'⟩ := hi i (by omega)
      rw [hC] at hc
      obtain ⟨ys, n', hn', hy, hlen', hyl, hf'⟩ := DataW.trod_struct he ht'
      obtain ⟨_, hcl, hat⟩ := World.cells?_some hc
      refine ⟨n', fun j f hj => ?_⟩
      obtain ⟨ho, hk⟩ := hone_of hone j f hj
      have hjl : j < fs.size := (Array.getElem?_eq_some_iff.1 hj).1
      have hcell := hat j hjl
      have hv' : cs'[j]? = some (cs'[j]'(by omega)) := List.getElem?_eq_getElem (by omega)
      have h1 := hf' j f hj
      rw [ho, hk] at h1
      have hone' : (cs'.drop j).take 1 = [cs'[j]'(by omega)] := by
        rw [List.drop_eq_getElem_cons (by omega)]
        rfl
      rw [hone'] at h1
      have hys : ys[j]? = some (ys[j]'(by omega)) := List.getElem?_eq_getElem (by omega)
      refine ⟨_, _, ?_, h1.trans hys⟩
      rw [← Go.Deep.add_add, hcell, hv']
    have each : ∀ q, q < n * fs.size → ∃ u, w.cell? (a.add q) = some u := by
      intro q hq
      have h1 : q / fs.size < n := Nat.div_lt_of_lt_mul (by rw [Nat.mul_comm]; exact hq)
      have h2 : q % fs.size < fs.size := Nat.mod_lt _ hpos
      obtain ⟨m', hm'⟩ := key (q / fs.size) h1
      obtain ⟨u, y, hu, _⟩ := hm' (q % fs.size) _ (Array.getElem?_eq_getElem h2)
      refine ⟨u, ?_⟩
      rw [← hu, Nat.mul_comm, Nat.div_add_mod]
    let F : Nat → Value := fun q => (w.cell? (a.add q)).getD undef
    have hF : ∀ q, q < n * fs.size → w.cell? (a.add q) = some (F q) := by
      intro q hq
      obtain ⟨u, hu⟩ := each q hq
      show _ = some ((w.cell? (a.add q)).getD undef)
      rw [hu]
      rfl
    refine ⟨some a, n, cap, (List.range (n * fs.size)).map F, rfl, hl, by omega, ⟨by simp, fun hn => ?_⟩, fun i hin => ?_⟩
    · obtain ⟨b, off, rfl, hb', hcell'⟩ := plain_of_cells (n := n * fs.size) (f := F) hF (Nat.mul_pos hn hpos)
      refine ⟨b, off, rfl, hb', fun j u hu => ?_⟩
      rw [List.getElem?_map, Option.map_eq_some_iff] at hu
      obtain ⟨z, hz1, rfl⟩ := hu
      obtain ⟨hz2, hz3⟩ := List.getElem?_eq_some_iff.1 hz1
      rw [List.length_range] at hz2
      rw [List.getElem_range] at hz3
      subst hz3
      exact hcell' _ hz2
    · obtain ⟨m', hm'⟩ := key i hin
      refine ⟨m', fun j f hj => ?_⟩
      have hjl : j < fs.size := (Array.getElem?_eq_some_iff.1 hj).1
      obtain ⟨u, y, hu, hy⟩ := hm' j f hj
      have hq : i * fs.size + j < n * fs.size := by
        have : (i + 1) * fs.size ≤ n * fs.size := Nat.mul_le_mul_right _ hin
        rw [Nat.succ_mul] at this
        omega
      refine ⟨u, y, ?_, hy⟩
      rw [List.getElem?_map, List.getElem?_range hq]
      show some (F _) = _
      rw [← hF _ hq, hu]
end

section
variable {H : Type} {enc : TypeId × Value → H} {w : World} {base : Nat} {spare : Nat → Bool} {held : Bool}
set_option maxRecDepth 100000 in
theorem rd_picks_c {u : Value} {y : DataW H × List MemPlace} {fuel : Nat} (hf : DataW.trod enc Try.prog w base spare held fuel 63 [u] = some y) :
    ∃ (A : Option Addr) (n cap : Nat) (l : List Pk), u = .slice A n cap ∧ n ≤ cap ∧ n ≤ maxLen ∧ l.length = n ∧ Rd w w.heap.size 3 A n (l.flatMap pkc) := by
  obtain ⟨A, n, cap, xs, rfl, hc, hm, hr, hx⟩ := rd_structs_c Try.underlying63 Try.underlying82 (by kernel_rfl) (by kernel_rfl) (by decide) hf
  obtain ⟨l, hl, rfl⟩ := told 3 pkc (fun _ => rfl) n xs hr.1 (fun i hi => by
    obtain ⟨m, hm⟩ := hx i hi
    obtain ⟨u0, y0, e0, t0⟩ := hm 0 _ rfl
    obtain ⟨u1, y1, e1, t1⟩ := hm 1 _ rfl
    obtain ⟨u2, y2, e2, t2⟩ := hm 2 _ rfl
    obtain ⟨z0, rfl, _⟩ := int_of Try.underlying3 t0
    obtain ⟨z1, rfl, _⟩ := int_of Try.underlying3 t1
    obtain ⟨z2, rfl, _⟩ := int_of Try.underlying3 t2
    exact ⟨(z0, z1, z2), fun j hj => by
      match j, hj with
      | 0, _ => exact e0
      | 1, _ => exact e1
      | 2, _ => exact e2⟩)
  exact ⟨A, n, cap, l, rfl, hc, hm, hl, hr⟩
theorem rd_picks {v : Value} {d : DataW H} {p : List MemPlace} {r : Reach} {b0 : Nat} (hv : Value.okWide Try.prog w r b0 63 v) (h : DataW.Trod enc Try.prog w base spare held 63 v d p) :
    ∃ (A : Option Addr) (n cap : Nat) (l : List Pk), v = .slice A n cap ∧ n ≤ cap ∧ n ≤ maxLen ∧ l.length = n ∧ Rd w w.heap.size 3 A n (l.flatMap pkc) := by
  obtain ⟨A, n, cap, rfl⟩ := okWide_slice Try.underlying63 hv
  obtain ⟨fuel, hf⟩ := h
  exact rd_picks_c hf
theorem cellsLook : Try.prog.cellsOf 65 = 3 := by kernel_rfl
theorem cellsU8 : Try.prog.cellsOf 5 = 1 := by kernel_rfl
theorem cellsPicks : Try.prog.cellsOf 63 = 1 := by kernel_rfl
theorem rd_look {v : Value} {d : DataW H} {p : List MemPlace} {r : Reach} {b0 : Nat} (hv : Value.okWide Try.prog w r b0 65 v) (h : DataW.Trod enc Try.prog w base spare held 65 v d p) :
    ∃ (k N : Int) (A : Option Addr) (n cap : Nat) (l : List Pk), v = .agg #[.int .u8 k, .slice A n cap, .int .u8 N] ∧ 0 ≤ k ∧ k ≤ 255 ∧ 0 ≤ N ∧ N ≤ 255 ∧ n ≤ cap ∧ n ≤ maxLen ∧ l.length = n ∧ Rd w w.heap.size 3 A n (l.flatMap pkc) := by
  obtain ⟨cs, rfl, hsz⟩ := okWide_struct Try.underlying65 hv
  rw [cellsLook] at hsz
  obtain ⟨cs⟩ := cs
  match cs, hsz with
  | [c0, c1, c2], _ =>
    obtain ⟨fuel, hf⟩ := h
    obtain ⟨y0, y1, y2, m, _, _, h0, h1, h2⟩ := trod_struct3 Try.underlying65 hf
    rw [cellsU8] at h0 h2
    rw [cellsPicks] at h1
    obtain ⟨k, rfl, wk⟩ := int_of Try.underlying5 (u := c0) h0
    obtain ⟨N, rfl, wN⟩ := int_of Try.underlying5 (u := c2) h2
    obtain ⟨A, n, cap, l, rfl, h3, h4, h5, h6⟩ := rd_picks_c (u := c1) h1
    obtain ⟨k0, k1⟩ := bounds_u8 wk
    obtain ⟨N0, N1⟩ := bounds_u8 wN
    exact ⟨k, N, A, n, cap, l, rfl, k0, k1, N0, N1, h3, h4, h5, h6⟩
end
end Go.Proofs.Ytmpbaanlagmacaa
