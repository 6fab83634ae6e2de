/- The frame of every law's row: if a law's walk ends in true and leaves all old memory as it was, its row holds. No program is named here. -/
import Derived.WalkKit
import Derived.ProofKit
import Derived.OpenShut
import Derived.Deep.Slices
import Derived.Deep.Fields
import Derived.ChangeSame
import Derived.Deep.Draws
import Derived.Test.YtmjkopejbdipcaaProg
import Derived.WalkSpells
import Derived.WalkLawsBesides
import Derived.Maps.Own
import Derived.Maps.OwnOps
import Derived.Maps.OwnSet
import Derived.Maps.Views
import Derived.Shelf.SlMaps.Clone
import Derived.Deep.RegionHeld3
import Derived.StillTactics
namespace Go.Proofs.Ytmjkopejbdipcaa
set_option linter.unusedSimpArgs false
set_option linter.unusedVariables false
open Go.ChangeShapes Go.WideShapes Go.ChangeAt Go.RowKit

section
variable {H : Type} {enc : TypeId × Value → H} {P : Program}

theorem trodAll_below (hl : laidOutB P = true) {W W' : World} (hb : Below W.heap.size W W') (sp : Nat → Bool) : ∀ (ts : List TypeId) (vs : List Value) (ds : List (DataW H)) (ps : List MemPlace),
    ts.all (fun t => P.readableRec t && decide (t < P.types.size)) = true → DataW.TrodAll enc P W 0 (fun _ => true) true ts vs ds ps → (∀ x ∈ ps, x.block < W.heap.size) → (∀ x ∈ ps, sp x.block = true) →
    DataW.TrodAll enc P W' 0 sp true ts vs ds ps
  | [], vs, ds, ps, _, h, _, _ => by
    obtain ⟨rfl, rfl, rfl⟩ := trodAll_nil h
    exact trodAll_mk0
  | t :: ts, vs, ds, ps, hr, h, hlt, hsp => by
    obtain ⟨v, vs', d, ds', p, q, rfl, rfl, rfl, h1, h2⟩ := trodAll_cons h
    rw [List.all_cons, Bool.and_eq_true, Bool.and_eq_true, decide_eq_true_iff] at hr
    exact trodAll_cons_mk (WideElems.Trod_stays hl hr.1.1 hr.1.2 h1 (fun x hx => hb.same (hlt x (List.mem_append_left _ hx))) (fun x hx => hsp x (List.mem_append_left _ hx)))
      (trodAll_below hl hb sp ts vs' ds' q hr.2 h2 (fun x hx => hlt x (List.mem_append_right _ hx)) (fun x hx => hsp x (List.mem_append_right _ hx)))

theorem post_below {f : Func} {s : ChangeSpec} {apart fresh handsOn again : Bool} {W W' : World} {args : Array Value} {v : Value} {ds gs : List (DataW H)} {before pa pv : List MemPlace}
    (hW : DataW.Whole enc P f.params.toList s.vars apart W args.toList ds gs before)
    (hres : ∀ (b : Nat) (sp : Nat → Bool) (hd : Bool), DataW.TrodAll enc P W' b sp hd f.resultTypes.toList (v.resultList f.resultTypes.size) (s.fn H (ds ++ gs)).results [])
    (hargs : ∀ sp : Nat → Bool, (∀ p ∈ before, sp p.block = true) → DataW.TrodAll enc P W' 0 sp true f.params.toList args.toList (s.fn H (ds ++ gs)).args pa)
    (hvars : ∀ sp : Nat → Bool, (∀ p ∈ before, sp p.block = true) → DataW.TrodVars enc P W' sp s.vars (s.fn H (ds ++ gs)).vars pv)
    (hps : before = pa ++ pv) (hb : Below W.heap.size W W')
    (hok : ∀ (j : Nat) (t : TypeId) (r : Value), f.resultTypes[j]? = some t → (v.resultList f.resultTypes.size)[j]? = some r → Value.okWide P W' .any 0 t r) :
    s.post enc P f apart fresh handsOn again W args v W' := by
  have hlt : ∀ p ∈ before, p.block < W.heap.size := fun p hp => hW.lt p hp
  have hold : ∀ p ∈ before, (fun b => decide (b < W.heap.size)) p.block = true := fun p hp => by simpa using hlt p hp
  refine ⟨ds, gs, before, [], pa, pv, hW, hres _ _ _, hargs _ hold, hvars _ hold, World.keptBut_mono (fun p hp => ⟨hp, ?_⟩) (hb.frame (· ∈ before)), fun _ => ?_⟩
  · rw [hps, List.mem_append] at hp
    exact Or.inr hp
  · obtain ⟨_, _, _, _, _, hz, hn⟩ := hW
    refine ⟨hok, _, _, ([] ++ pa) ++ pv, ⟨[] ++ pa, pv, trodAll_append (hargs _ (fun _ _ => rfl)) (hres _ _ _), hvars _ (fun _ _ => rfl), rfl, ?_, ?_⟩, ?_⟩
    · intro b off hp
      have hin : MemPlace.cell b off ∈ before := by rw [hps]; simpa using hp
      rw [hb.frozen (hlt _ hin)]
      exact hz b off hin
    · intro ha
      have := hn ha
      rw [hps] at this
      simpa using this
    · intro p hp _
      rw [hps]
      simpa using hp
end

/-- What a law's walk has to show: called with values that can be read, it returns true and leaves all that was there. -/
def LawWalk (P : Program) (f : FuncId) (ps : Array TypeId) : Prop :=
  ∀ (H : Type) (enc : TypeId × Value → H) (W : World) (base : Nat) (args : Array Value) (ds : List (DataW H)) (p : List MemPlace),
    (∀ (j : Nat) t v, ps[j]? = some t → args[j]? = some v → Value.okWide P W .any base t v) →
    DataW.TrodAll enc P W 0 (fun _ => true) true ps.toList args.toList ds p → (∀ x ∈ p, x.block < W.heap.size) →
    Calls P f args W fun e W' => e = .returned (.bool true) ∧ Below W.heap.size W W'

/-- The specification says: true, and each argument as it was. -/
def SaysTrue (s : ChangeSpec) (n : Nat) : Prop :=
  s.vars = [] ∧ ∀ (H : Type) (ds : List (DataW H)), ds.length = n → (s.fn H ds).results = [.lit (.bool true)] ∧ (s.fn H ds).args = ds ∧ (s.fn H ds).vars = []

theorem trodAll_length {H : Type} {enc : TypeId × Value → H} {P : Program} {w : World} {base : Nat} {spare : Nat → Bool} {held : Bool} : ∀ (ts : List TypeId) (vs : List Value) (ds : List (DataW H)) (ps : List MemPlace),
    DataW.TrodAll enc P w base spare held ts vs ds ps → ds.length = ts.length
  | [], vs, ds, ps, h => by
    obtain ⟨rfl, rfl, rfl⟩ := trodAll_nil h
    rfl
  | t :: ts, vs, ds, ps, h => by
    obtain ⟨v, vs', d, ds', p, q, rfl, rfl, rfl, h1, h2⟩ := trodAll_cons h
    simp [trodAll_length ts vs' ds' q h2]

theorem law_lifted {C : Checked} {os : Os} {f : FuncId} {fn : Func} {s : ChangeSpec} {tb : TypeId} {H : Type} {enc : TypeId × Value → H} (started : os.Started)
    (own : ownKnob C.prog.godebug = none) (laid : laidOutB C.prog = true) (noInit : C.prog.inits.idxOf? f = none) (hfn : C.prog.funcs[f]? = some fn)
    (hres : fn.resultTypes = #[tb]) (htb : C.prog.underlying tb = some .bool) (hread : fn.params.toList.all (fun t => C.prog.readableRec t && decide (t < C.prog.types.size)) = true)
    (hs : SaysTrue s fn.params.size)
    (witness : ∃ (w : World) (tape : Tape) (i : Input), w.os = os ∧ (w.forCall tape i).Shaped C.prog ∧ i.vars = [] ∧ Input.okWide C.prog (w.forCall tape i) .any w.heap.size f i ∧
      s.pre6 enc C.prog fn [] false (w.forCall tape i).memory i.args ∧ ({} : Assume).holds C.prog (lone (Frame.enter C.prog f i.args .normal) [] (w.forCall tape i)))
    (walk : LawWalk C.prog f fn.params) :
    ReturnsInHanded {} C os f .any (s.pre6 enc C.prog fn [] false) (s.post enc C.prog fn false true false false) := by
  refine returnsInHanded_of_change (C := C) own started noInit hfn witness ?_
  intro W base args ds gs before hval hW _ _
  have hlt : ∀ p ∈ before, p.block < W.heap.size := fun p hp => hW.lt p hp
  have hW' := hW
  obtain ⟨p, q, hA, hV, hpq, hfz, hnd⟩ := hW
  have hlen := trodAll_length _ _ _ _ hA
  obtain ⟨hv0, hsp⟩ := hs
  have hV2 := hV
  rw [hv0] at hV2
  obtain ⟨rfl, rfl⟩ := trodVars_none hV2
  rw [List.append_nil] at hpq
  subst hpq
  obtain ⟨r1, r2, r3⟩ := hsp H (ds ++ []) (by simpa using hlen)
  refine (walk H enc W base args ds before hval hA hlt).mono fun e W' ⟨he, hb⟩ => ?_
  subst he
  refine ⟨_, rfl, post_below (pa := before) (pv := []) hW' ?_ ?_ ?_ (by simp) hb (ok_one hres rfl (okWide_bool_mk htb _))⟩
  · intro b sp hd
    rw [r1, hres]
    exact trodAll_mk1 (shut_bool htb true)
  · intro sp hsp'
    rw [r2, List.append_nil]
    exact trodAll_below laid hb sp _ _ _ _ hread hA hlt hsp'
  · intro sp _
    rw [r3, hv0]
    rfl
end Go.Proofs.Ytmjkopejbdipcaa
namespace Go.Proofs.Ytmjkopejbdipcaa
set_option linter.unusedSimpArgs false
set_option linter.unusedVariables false
open Go.ChangeShapes Go.WideShapes Go.ChangeAt Go.RowKit Go.Deep

/-- What lies below a block that a callee leaves alone reads as before. -/
theorem bcell {W w1 : World} (hb : Below W.heap.size W w1) : (∀ b o, b < W.heap.size → w1.cell? ⟨b, o, none⟩ = W.cell? ⟨b, o, none⟩) ∧ (∀ b o, b < W.heap.size → w1.frozen? ⟨b, o, none⟩ = W.frozen? ⟨b, o, none⟩) :=
  ⟨fun b o h => hb.cell (p := ⟨b, o, none⟩) h, fun b o h => hb.frozen (p := ⟨b, o, none⟩) h⟩

theorem bcellB {B : Nat} {W w1 : World} (hb : Below B W w1) : (∀ b o, b < B → w1.cell? ⟨b, o, none⟩ = W.cell? ⟨b, o, none⟩) ∧ (∀ b o, b < B → w1.frozen? ⟨b, o, none⟩ = W.frozen? ⟨b, o, none⟩) :=
  ⟨fun b o h => hb.cell (p := ⟨b, o, none⟩) h, fun b o h => hb.frozen (p := ⟨b, o, none⟩) h⟩
theorem snoc_ind {α : Type} {P : List α → Prop} (h0 : P []) (h1 : ∀ l a, P l → P (l ++ [a])) (l : List α) : P l := by
  have h : ∀ r : List α, P r.reverse := by
    intro r
    induction r with
    | nil => exact h0
    | cons a r ih => rw [List.reverse_cons]; exact h1 _ _ ih
  rw [← List.reverse_reverse l]
  exact h _
theorem ret_int {k : IntKind} {a b : Int} (h : a = b) : Ending.returned (.int k a) = .returned (.int k b) := by rw [h]
theorem below_drewN {B : Nat} {a w : World} (h : Below B a w) (n : Nat) : Below B a (w.drewN n) := ⟨h.os, h.tape, h.output, h.size, h.block⟩
theorem hide {p : Prop} (h : p) : Hid p := h
theorem cell_lt {w : World} {a : Addr} {v : Value} (h : w.cell? a = some v) : a.block < w.heap.size := by
  rcases Nat.lt_or_ge a.block w.heap.size with hl | hg
  · exact hl
  · exfalso
    unfold World.cell? at h
    rw [Array.getElem?_eq_none hg] at h
    simp at h

/-- A slice (its address, its length) whose cells are xs, 'size' cells an element, in a block below B. -/
def Rd (w : World) (B size : Nat) (A : Option Addr) (n : Nat) (xs : List Value) : Prop :=
  xs.length = n * size ∧ (0 < n → ∃ b off, A = some ⟨b, off, none⟩ ∧ b < B ∧ ∀ j u, xs[j]? = some u → w.cell? ⟨b, off + j, none⟩ = some u)

section
variable {w w' : World} {B B' size : Nat} {A : Option Addr} {n : Nat} {xs : List Value}
theorem Rd.nil (w : World) (B size : Nat) (A : Option Addr) : Rd w B size A 0 [] := ⟨by simp, fun h => absurd h (Nat.lt_irrefl 0)⟩
theorem Rd.below (h : Rd w B size A n xs) (hb : Below B w w') : Rd w' B size A n xs :=
  ⟨h.1, fun hn => by
    obtain ⟨b, off, e, hB, hc⟩ := h.2 hn
    exact ⟨b, off, e, hB, fun j u hu => (hb.cell (p := ⟨b, off + j, none⟩) hB).trans (hc j u hu)⟩⟩
theorem Rd.more (h : Rd w B size A n xs) (hB : B ≤ B') : Rd w B' size A n xs :=
  ⟨h.1, fun hn => by
    obtain ⟨b, off, e, h1, hc⟩ := h.2 hn
    exact ⟨b, off, e, Nat.lt_of_lt_of_le h1 hB, hc⟩⟩
theorem Rd.at_ (h : Rd w B size A n xs) {k : Nat} (hk : k < n) : ∃ b off, A = some ⟨b, off, none⟩ ∧ b < B ∧ ∀ j u, xs[j]? = some u → w.cell? ⟨b, off + j, none⟩ = some u := h.2 (by omega)
theorem Rd.of_own {base : Nat} {e : TypeId} {v : Value} (h : w.ownsRow base e size v n xs) : ∃ A cap, v = .slice A n cap ∧ Rd w w.heap.size size A n xs := by
  have hc := @World.ownsRow.cells _ _ _ _ _ _ _ h
  have hlt := h.lt
  obtain ⟨h1, h2⟩ := h
  rcases h2 with ⟨rfl, rfl⟩ | ⟨g, cap, cur, rfl, hg, hh, _⟩
  · obtain rfl : xs = [] := List.eq_nil_of_length_eq_zero (by simpa using h1)
    exact ⟨none, 0, rfl, Rd.nil _ _ _ _⟩
  · refine ⟨_, cap, rfl, h1, fun hn => ⟨g, 0, rfl, (hlt g rfl).2, fun j u hu => ?_⟩⟩
    have := hc (g := g) rfl j u hu
    rw [Go.WideShapes.add_plain] at this
    simpa using this
end

section
variable {H : Type} {enc : TypeId × Value → H} {P : Program} {w : World} {base : Nat} {spare : Nat → Bool} {held : Bool}

theorem plain_of_cells {w : World} {a : Addr} {n : Nat} {f : Nat → Value} (h : ∀ i, i < n → w.cell? (a.add i) = some (f i)) (hp : 0 < n) : ∃ b off, a = ⟨b, off, none⟩ ∧ b < w.heap.size ∧ ∀ j, j < n → w.cell? ⟨b, off + j, none⟩ = some (f j) := by
  obtain ⟨b, off, spot⟩ := a
  have hspot : spot = none := by simpa [Addr.add] using World.cell?_spot (h 0 hp)
  subst hspot
  have h0 := h 0 hp
  rw [Go.WideShapes.add_plain] at h0
  exact ⟨b, off, rfl, cell_lt h0, fun j hj => by rw [← Go.WideShapes.add_plain]; exact h j hj⟩

/-- A slice of integers that came in. -/
theorem rd_ints {t e : TypeId} {k : IntKind} {v : Value} {d : DataW H} {p : List MemPlace} {r : Reach} {b0 : Nat} (ht : P.underlying t = some (.slice e)) (he : P.underlying e = some (.int k)) (hc : P.cellsOf e = 1)
    (hv : Value.okWide P w r b0 t v) (h : DataW.Trod enc P w base spare held t v d p) :
    ∃ (A : Option Addr) (n cap : Nat) (zs : List Int), v = .slice A n cap ∧ n ≤ maxLen ∧ zs.length = n ∧ Rd w w.heap.size 1 A n (zs.map (Value.int k)) ∧ ∀ z ∈ zs, (Lit.int k z).wf = true := by
  obtain ⟨A, n, cap, rfl⟩ := okWide_slice ht hv
  obtain ⟨fuel, hf⟩ := h
  rcases open_ints ht he hc hf with ⟨hcs, hx⟩ | ⟨a, len, cap', zs, hcs, _, hl, hm, hz, hx, hcell, hwz⟩
  · simp [Value.cells] at hcs
    obtain ⟨rfl, rfl, rfl⟩ := hcs
    exact ⟨none, 0, 0, [], rfl, Nat.zero_le _, rfl, Rd.nil _ _ _ _, by simp⟩
  · simp [Value.cells] at hcs
    obtain ⟨rfl, rfl, rfl⟩ := hcs
    have hlen : n ≤ zs.length := by rw [hz]; split <;> omega
    refine ⟨some a, n, cap, zs.take n, rfl, by omega, by simp [hlen], ⟨by simp [hlen], fun hn => ?_⟩, fun z hz' => hwz z (List.mem_of_mem_take hz')⟩
    obtain ⟨b, off, rfl, hb, hcell'⟩ := plain_of_cells (n := n) (f := fun j => Value.int k (zs.getD j 0)) (fun i hi => hcell i (by omega)) hn
    refine ⟨b, off, rfl, hb, fun j u hu => ?_⟩
    rw [List.getElem?_map, Option.map_eq_some_iff] at hu
    obtain ⟨z, hz1, rfl⟩ := hu
    rw [List.getElem?_take] at hz1
    split at hz1
    · rw [hcell' j (by omega), List.getD_eq_getElem?_getD, hz1]
      rfl
    · cases hz1

/-- A slice of structs of one-cell fields that came in: the raw cells, each field with its own reading. -/
theorem rd_structs {t e : TypeId} {fs : Array Field} {v : Value} {d : DataW H} {p : List MemPlace} {r : Reach} {b0 : Nat} (ht : P.underlying t = some (.slice e)) (he : P.underlying e = some (.struct fs))
    (hone : oneCellFields P fs = true) (hC : P.cellsOf e = fs.size) (hpos : 0 < fs.size) (hv : Value.okWide P w r b0 t v) (h : DataW.Trod enc P w base spare held t v d p) :
    ∃ (A : Option Addr) (n cap : Nat) (xs : List Value), v = .slice A n cap ∧ n ≤ maxLen ∧ Rd w w.heap.size fs.size A n xs ∧
      ∀ i, i < n → ∃ m : Nat, ∀ (j : Nat) (f : Field), fs[j]? = some f → ∃ (u : Value) (y : DataW H × List MemPlace), xs[i * fs.size + j]? = some u ∧ DataW.trod enc P w base spare held m f.type [u] = some y := by
  obtain ⟨A, n, cap, rfl⟩ := okWide_slice ht hv
  obtain ⟨fuel, hf⟩ := h
  rcases open_slice ht hf with ⟨hcs, hx⟩ | ⟨a, len, cap', m, fu, D, Pl, hcs, hb, hl, hm, hmm, hx, hi⟩
  · simp [Value.cells] at hcs
    obtain ⟨rfl, rfl, rfl⟩ := hcs
    exact ⟨none, 0, 0, [], rfl, Nat.zero_le _, Rd.nil _ _ _ _, fun i hi => absurd hi (Nat.not_lt_zero i)⟩
  · simp [Value.cells] at hcs
    obtain ⟨rfl, rfl, rfl⟩ := hcs
    have hlen : n ≤ m := by rw [hmm]; split <;> omega
    have key : ∀ i, i < n → ∃ m' : Nat, ∀ (j : Nat) (f : Field), fs[j]? = some f → ∃ (u : Value) (y : DataW H × List MemPlace), w.cell? (a.add (i * fs.size + j)) = some u ∧ DataW.trod enc P w base spare held m' f.type [u] = some y := by
      intro i hin
      obtain ⟨cs', hc, ht'⟩ := hi i (by omega)
      rw [hC] at hc
      obtain ⟨ys, n', hn', hy, hlen', hyl, hf'⟩ := DataW.trod_struct he ht'
      obtain ⟨_, hcl, hat⟩ := World.cells?_some hc
      refine ⟨n', fun j f hj => ?_⟩
      obtain ⟨ho, hk⟩ := hone_of hone j f hj
      have hjl : j < fs.size := (Array.getElem?_eq_some_iff.1 hj).1
      have hcell := hat j hjl
      have hv' : cs'[j]? = some (cs'[j]'(by omega)) := List.getElem?_eq_getElem (by omega)
      have h1 := hf' j f hj
      rw [ho, hk] at h1
      have hone' : (cs'.drop j).take 1 = [cs'[j]'(by omega)] := by
        rw [List.drop_eq_getElem_cons (by omega)]
        rfl
      rw [hone'] at h1
      have hys : ys[j]? = some (ys[j]'(by omega)) := List.getElem?_eq_getElem (by omega)
      refine ⟨_, _, ?_, h1.trans hys⟩
      rw [← Go.Deep.add_add, hcell, hv']
    have each : ∀ q, q < n * fs.size → ∃ u, w.cell? (a.add q) = some u := by
      intro q hq
      have h1 : q / fs.size < n := Nat.div_lt_of_lt_mul (by rw [Nat.mul_comm]; exact hq)
      have h2 : q % fs.size < fs.size := Nat.mod_lt _ hpos
      obtain ⟨m', hm'⟩ := key (q / fs.size) h1
      obtain ⟨u, y, hu, _⟩ := hm' (q % fs.size) _ (Array.getElem?_eq_getElem h2)
      refine ⟨u, ?_⟩
      rw [← hu, Nat.mul_comm, Nat.div_add_mod]
    let F : Nat → Value := fun q => (w.cell? (a.add q)).getD undef
    have hF : ∀ q, q < n * fs.size → w.cell? (a.add q) = some (F q) := by
      intro q hq
      obtain ⟨u, hu⟩ := each q hq
      show _ = some ((w.cell? (a.add q)).getD undef)
      rw [hu]
      rfl
    refine ⟨some a, n, cap, (List.range (n * fs.size)).map F, rfl, by omega, ⟨by simp, fun hn => ?_⟩, fun i hin => ?_⟩
    · obtain ⟨b, off, rfl, hb', hcell'⟩ := plain_of_cells (n := n * fs.size) (f := F) hF (Nat.mul_pos hn hpos)
      refine ⟨b, off, rfl, hb', fun j u hu => ?_⟩
      rw [List.getElem?_map, Option.map_eq_some_iff] at hu
      obtain ⟨z, hz1, rfl⟩ := hu
      obtain ⟨hz2, hz3⟩ := List.getElem?_eq_some_iff.1 hz1
      rw [List.length_range] at hz2
      rw [List.getElem_range] at hz3
      subst hz3
      exact hcell' _ hz2
    · obtain ⟨m', hm'⟩ := key i hin
      refine ⟨m', fun j f hj => ?_⟩
      have hjl : j < fs.size := (Array.getElem?_eq_some_iff.1 hj).1
      obtain ⟨u, y, hu, hy⟩ := hm' j f hj
      have hq : i * fs.size + j < n * fs.size := by
        have : (i + 1) * fs.size ≤ n * fs.size := Nat.mul_le_mul_right _ hin
        rw [Nat.succ_mul] at this
        omega
      refine ⟨u, y, ?_, hy⟩
      rw [List.getElem?_map, List.getElem?_range hq]
      show some (F _) = _
      rw [← hF _ hq, hu]
end

section
variable {H : Type} {enc : TypeId × Value → H} {P : Program} {w : World} {base : Nat} {spare : Nat → Bool} {held : Bool}
theorem int_of {t : TypeId} {k : IntKind} {m : Nat} {u : Value} {y : DataW H × List MemPlace} (ht : P.underlying t = some (.int k)) (h : DataW.trod enc P w base spare held m t [u] = some y) : ∃ z, u = .int k z ∧ (Lit.int k z).wf = true := by
  obtain ⟨z, e, _, wz⟩ := DataW.trod_int ht h
  simp at e
  exact ⟨z, e, wz⟩
theorem bool_of {t : TypeId} {m : Nat} {u : Value} {y : DataW H × List MemPlace} (ht : P.underlying t = some .bool) (h : DataW.trod enc P w base spare held m t [u] = some y) : ∃ b, u = .bool b := by
  obtain ⟨b, e, _⟩ := DataW.trod_bool ht h
  simp at e
  exact ⟨b, e⟩
end

/-- Raw cells told as the images of plain values, element by element. -/
theorem told {α : Type} (size : Nat) (g : α → List Value) (hg : ∀ a, (g a).length = size) : ∀ (n : Nat) (xs : List Value), xs.length = n * size →
    (∀ i, i < n → ∃ a, ∀ j, j < size → xs[i * size + j]? = (g a)[j]?) → ∃ l : List α, l.length = n ∧ xs = l.flatMap g
  | 0, xs, hl, _ => ⟨[], rfl, List.eq_nil_of_length_eq_zero (by simpa using hl)⟩
  | n + 1, xs, hl, h => by
    have hl' : xs.length = n * size + size := by rw [hl, Nat.succ_mul]
    obtain ⟨l, h1, h2⟩ := told size g hg n (xs.take (n * size)) (by simp; omega) (fun i hi => by
      obtain ⟨a, ha⟩ := h i (by omega)
      refine ⟨a, fun j hj => ?_⟩
      have : (i + 1) * size ≤ n * size := Nat.mul_le_mul_right _ hi
      rw [Nat.succ_mul] at this
      rw [List.getElem?_take, if_pos (by omega)]
      exact ha j hj)
    obtain ⟨a, ha⟩ := h n (by omega)
    refine ⟨l ++ [a], by simp [h1], ?_⟩
    rw [List.flatMap_append, ← h2]
    simp only [List.flatMap_cons, List.flatMap_nil, List.append_nil]
    have e : xs.drop (n * size) = g a := by
      apply List.ext_getElem?
      intro j
      rw [List.getElem?_drop]
      by_cases hj : j < size
      · exact ha j hj
      · rw [List.getElem?_eq_none (by omega), List.getElem?_eq_none (by rw [hg]; omega)]
    rw [← e, List.take_append_drop]
theorem told_good {α : Type} (size : Nat) (g : α → List Value) (hg : ∀ a, (g a).length = size) (Q : α → Prop) : ∀ (n : Nat) (xs : List Value), xs.length = n * size →
    (∀ i, i < n → ∃ a, Q a ∧ ∀ j, j < size → xs[i * size + j]? = (g a)[j]?) → ∃ l : List α, l.length = n ∧ (∀ a ∈ l, Q a) ∧ xs = l.flatMap g := by
  intro n xs hl h
  have h' : ∀ i, i < n → ∃ a : { a : α // Q a }, ∀ j, j < size → xs[i * size + j]? = (g a.1)[j]? := fun i hi => by
    obtain ⟨a, hq, ha⟩ := h i hi
    exact ⟨⟨a, hq⟩, ha⟩
  obtain ⟨l, h1, h2⟩ := told size (fun a : { a : α // Q a } => g a.1) (fun a => hg a.1) n xs hl h'
  refine ⟨l.map (·.1), by simp [h1], fun a ha => ?_, ?_⟩
  · obtain ⟨b, _, rfl⟩ := List.mem_map.1 ha
    exact b.2
  · rw [h2, List.flatMap_map]
theorem told_at {α : Type} {size : Nat} {g : α → List Value} (hg : ∀ a, (g a).length = size) : ∀ (l : List α) (k : Nat) (a : α), l[k]? = some a → ∀ j, j < size → (l.flatMap g)[k * size + j]? = (g a)[j]?
  | [], k, a, h, _, _ => by simp at h
  | b :: l, 0, a, h, j, hj => by
    simp at h
    subst h
    simp [List.flatMap_cons, List.getElem?_append_left (show j < (g b).length by rw [hg]; exact hj)]
  | b :: l, k + 1, a, h, j, hj => by
    rw [List.flatMap_cons, List.getElem?_append_right (by rw [hg, Nat.succ_mul]; omega), hg, show (k + 1) * size + j - size = k * size + j by rw [Nat.succ_mul]; omega]
    exact told_at hg l k a (by simpa using h) j hj
theorem grown_of_below {a w : World} (h : Below a.heap.size a w) (row : Option Nat) : a.grownBy w row := ⟨h.os, h.tape, h.output, h.size, fun i hi _ => h.block i hi⟩
theorem own_below {w w' : World} {base size n : Nat} {e : TypeId} {v : Value} {xs : List Value} (h : w.ownsRow base e size v n xs) (hb : Below w.heap.size w w') : w'.ownsRow base e size v n xs :=
  h.kept (grown_of_below hb none) (by cases v.ownBlock <;> simp)

/-- Behind an append: a block that is not the row's reads as before. -/
theorem gcell {w w' : World} {v : Value} (hg : w.grownBy w' v.ownBlock) {b : Nat} (hb : b < w.heap.size) (hne : v.ownBlock ≠ some b) : (∀ o, w'.cell? ⟨b, o, none⟩ = w.cell? ⟨b, o, none⟩) ∧ (∀ o, w'.frozen? ⟨b, o, none⟩ = w.frozen? ⟨b, o, none⟩) :=
  ⟨fun _ => World.cell?_of_block (w := w) (hg.block b hb (fun e => hne e.symm)), fun _ => World.frozen?_of_block (w := w) (hg.block b hb (fun e => hne e.symm))⟩
theorem own_ne {w : World} {base size n b : Nat} {e : TypeId} {v : Value} {xs : List Value} (h : w.ownsRow base e size v n xs) (hb : b < base ∨ w.heap.size ≤ b) : v.ownBlock ≠ some b := by
  intro he
  have := h.lt b he
  omega
theorem below_grown {a w w' : World} {B base size n : Nat} {e : TypeId} {v : Value} {xs : List Value} (h : Below B a w) (hg : w.grownBy w' v.ownBlock) (hown : w.ownsRow base e size v n xs) (hB : B ≤ base) (hB2 : B ≤ w.heap.size) : Below B a w' :=
  h.grown hg hB2 (fun k hk => by have := hown.lt k hk; omega)

/-- Element k of a slice of plain values told by g: its cells. -/
theorem Rd.elem {α : Type} {w : World} {B size n : Nat} {A : Option Addr} {g : α → List Value} {l : List α} (hr : Rd w B size A n (l.flatMap g)) (hg : ∀ a, (g a).length = size) {k : Nat} (hk : k < n) {a : α} (ha : l[k]? = some a) :
    ∃ b off, A = some ⟨b, off, none⟩ ∧ b < B ∧ ∀ j u, (g a)[j]? = some u → w.cell? ⟨b, off + k * size + j, none⟩ = some u := by
  obtain ⟨b, off, e, hb, hc⟩ := hr.at_ hk
  refine ⟨b, off, e, hb, fun j u hu => ?_⟩
  have hj : j < size := by
    rw [← hg a]
    exact (List.getElem?_eq_some_iff.1 hu).1
  rw [Nat.add_assoc]
  exact hc _ _ ((told_at hg l k a ha j hj).trans hu)
theorem Rd.set_far {w : World} {B size b n c o : Nat} {xs : List Value} (h : Rd w B size (some ⟨b, 0, none⟩) n xs) (hne : c ≠ b) (x : Value) : Rd (w.setCell ⟨c, o, none⟩ x) B size (some ⟨b, 0, none⟩) n xs := by
  refine ⟨h.1, fun hn => ?_⟩
  obtain ⟨b', off, e, hB, hc⟩ := h.2 hn
  refine ⟨b', off, e, hB, fun j u hu => ?_⟩
  injection e with e
  injection e with e1 e2
  subst e1 e2
  rw [World.cell?_setCell_other _ _ _ _ (by intro e3; injection e3 with e3 _; exact hne e3)]
  exact hc j u hu
/-- A fact about the world behind a draw is one about the world. -/
theorem noDrew {w w' : World} (h : Below w.drew.heap.size w.drew w') : Below w.heap.size w w' := (Below.refl _ _).drew.trans h
end Go.Proofs.Ytmjkopejbdipcaa
namespace Go.Proofs.Ytmjkopejbdipcaa
set_option linter.unusedSimpArgs false
set_option linter.unusedVariables false
open Go.RowKit Go.Maps

theorem law_int : Keyed Try.prog 3 := int_keyed Try.underlying3
theorem law_loc : Keyed Try.prog 64 := int_keyed Try.underlying64
theorem zero_int (w : World) : (zeroValue 3).run Try.prog w = .ok (.int .i64 0) w := by kernel_rfl

/-- The map value v (keys of type k) holds the counts f, at most n of them. -/
def MapF (w : World) (k : TypeId) (v : Option Nat) (n : Nat) (f : Int → Int) : Prop :=
  (v = none ∧ ∀ z, f z = 0) ∨
  ∃ (b : Nat) (D : DataW Unit), v = some b ∧ w.ownsMap Try.prog k (plainElem Try.prog 3) b n D ∧ IsMap D ∧ ∀ z, (Lit.int .i64 z).wf = true → D.atKey (.int .i64 z) (.lit (.int .i64 0)) = .lit (.int .i64 (f z))

section
variable {w w' : World} {k : TypeId} {v : Option Nat} {n n' : Nat} {f : Int → Int}
theorem MapF.nil (w : World) (k : TypeId) (n : Nat) : MapF w k none n (fun _ => 0) := .inl ⟨rfl, fun _ => rfl⟩
theorem MapF.below (h : MapF w k v n f) (hb : Below w.heap.size w w') : MapF w' k v n f := by
  rcases h with h | ⟨b, D, rfl, hown, hi, hf⟩
  · exact .inl h
  · exact .inr ⟨b, D, rfl, hown.kept (grown_of_below hb none) (by simp), hi, hf⟩
theorem MapF.mono (h : MapF w k v n f) (hn : n ≤ n') : MapF w k v n' f := by
  rcases h with h | ⟨b, D, rfl, hown, hi, hf⟩
  · exact .inl h
  · exact .inr ⟨b, D, rfl, hown.mono hn, hi, hf⟩
end

theorem block_of_cell {w : World} {a : Addr} {u : Value} (h : w.cell? a = some u) : ∃ c t fr, w.heap[a.block]? = some (.cells c t fr) := by
  unfold World.cell? at h
  split at h
  · rename_i c t fr hb
    exact ⟨c, t, fr, hb⟩
  · cases h
theorem MapF.setCell {w : World} {k : TypeId} {v : Option Nat} {n : Nat} {f : Int → Int} {a : Addr} {u : Value} (h : MapF w k v n f) (hc : w.cell? a = some u) (x : Value) : MapF (w.setCell a x) k v n f := by
  rcases h with h | ⟨b, D, rfl, hown, hi, hf⟩
  · exact .inl h
  · refine .inr ⟨b, D, rfl, hown.setCell ?_ x, hi, hf⟩
    rintro rfl
    obtain ⟨c, t, fr, hb⟩ := block_of_cell hc
    obtain ⟨es, clock, hb', _⟩ := hown
    rw [hb] at hb'
    cases hb'

theorem MapF.set3 {w : World} {k : TypeId} {v : Option Nat} {n : Nat} {f : Int → Int} {B : Nat} {x0 x1 x2 : Value} (h : MapF w k v n f) (e0 : w.cell? ⟨B, 0, none⟩ = some x0) (e1 : w.cell? ⟨B, 1, none⟩ = some x1) (e2 : w.cell? ⟨B, 2, none⟩ = some x2) (y0 y1 y2 : Value) :
    MapF (((w.setCell ⟨B, 0, none⟩ y0).setCell ⟨B, 1, none⟩ y1).setCell ⟨B, 2, none⟩ y2) k v n f :=
  ((h.setCell e0 _).setCell (a := ⟨B, 1, none⟩) (u := x1) (by simp [go_sem, e1]) _).setCell (a := ⟨B, 2, none⟩) (u := x2) (by simp [go_sem, e2]) _

theorem extern_clone (w : World) (t : TypeId) (b : Nat) (es : Array MapEntry) (clock : Nat) (hb : w.heap[b]? = some (.map es clock)) :
    Sem.run Try.prog (callFunc 50 #[.iface t (.map (some b))]) w = .ok (.value (.iface t (.map (some w.heap.size)))) (w.alloc (.map es clock)) := by
  rw [run_callFunc_extern Try.func50 (by kernel_rfl) (by kernel_rfl) (by kernel_rfl) (e := Extern.MapsClone.clone) (by kernel_rfl), run_maps_clone_sl w t hb]
  rfl

theorem typeAssert_map (w : World) (t xT k e : TypeId) (v : Value) (h : Try.prog.underlying t = some (.map k e)) : (Instr.typeAssert (.iface t v) xT t false).run Try.prog w = .ok v w := run_typeAssert_map_sl w t xT k e v h

set_option maxHeartbeats 400000 in
set_option maxRecDepth 100000 in
theorem clone_loc (v : Option Nat) (n : Nat) (f : Int → Int) (w : World) (h : MapF w 64 v n f) :
    Calls Try.prog 49 #[.map v] w fun e w' => ∃ v', e = .returned (.map v') ∧ (v' = none ∨ v' = some w.heap.size) ∧ MapF w' 64 v' n f ∧ Below w.heap.size w w' := by
  have hq := fun (w : World) (r : Option Nat) => run_eql_map_nil (P := Try.prog) w _ _ _ r Try.underlying77
  rcases h with ⟨rfl, hf⟩ | ⟨b, D, rfl, hown, hi, hf⟩
  · go_enter Try.func49, Try.ntmps49
    go_wp2
    go_ret
    exact ⟨_, rfl, .inl rfl, .inl ⟨rfl, hf⟩, Below.refl _ _⟩
  · have hown0 := hown
    obtain ⟨es, clock, hb, F, hs, hD⟩ := hown
    have hta := fun (W : World) (v : Value) => typeAssert_map W 77 20 _ _ v Try.underlying77
    go_enter Try.func49, Try.ntmps49
    go_wp2
    rw [extern_clone w 77 b es clock hb]
    (try simp only [Result.andThen])
    rw [Oper.upon_value]
    go_wp2
    go_ret
    exact ⟨_, rfl, .inr rfl, .inr ⟨_, D, rfl, ⟨es, clock, (MapKept.heap_alloc w _).1, F, hs, hD⟩, hi, hf⟩, (Below.refl _ _).alloc (Nat.le_refl _) _⟩

theorem info_inj {a b : Int} (h : (DataW.lit (.int .i64 a) : DataW Unit) = .lit (.int .i64 b)) : a = b := by
  injection h with h
  injection h

def upd (f : Int → Int) (z y : Int) : Int → Int := fun x => if x = z then y else f x
theorem upd_same (f : Int → Int) (z y : Int) : upd f z y z = y := if_pos rfl
theorem upd_other {f : Int → Int} {z y x : Int} (h : x ≠ z) : upd f z y x = f x := if_neg h

theorem reads_upd {D : DataW Unit} {f : Int → Int} (hi : IsMap D) (hf : ∀ z, (Lit.int .i64 z).wf = true → D.atKey (.int .i64 z) (.lit (.int .i64 0)) = .lit (.int .i64 (f z))) (z y : Int) (_wz : (Lit.int .i64 z).wf = true) :
    ∀ x, (Lit.int .i64 x).wf = true → (D.put (.int .i64 z) (.lit (.int .i64 y))).atKey (.int .i64 x) (.lit (.int .i64 0)) = .lit (.int .i64 (upd f z y x)) := by
  intro x wx
  by_cases hx : x = z
  · subst hx
    rw [atKey_put_same hi (by trivial), upd_same]
  · rw [atKey_put_other (by intro h; injection h with _ h; exact hx h), upd_other hx]
    exact hf x wx


theorem MapF.alloc {w : World} {k : TypeId} {v : Option Nat} {n : Nat} {f : Int → Int} (h : MapF w k v n f) (o : Obj) : MapF (w.alloc o) k v n f := h.below ((Below.refl _ _).alloc (Nat.le_refl _) o)
theorem look_any {w : World} {k t : TypeId} {v : Option Nat} {n : Nat} {f : Int → Int} (h : MapF w k v n f) (hk : Try.prog.underlying k = some (.int .i64)) (ht : Try.prog.underlying t = some (.map k 3)) {z : Int} (wz : (Lit.int .i64 z).wf = true) :
    (Instr.lookup t (.map v) (.int .i64 z) false).run Try.prog w = .ok (.int .i64 (f z)) w := by
  rcases h with ⟨rfl, hf⟩ | ⟨b, D, rfl, hown, hi, hf⟩
  · rw [hf z]
    exact Maps.look_nil false (int_keyed hk) ht (zero_int w) (keyOf_int_mk hk wz)
  · obtain ⟨c, hrun, hat, _⟩ := hown.lookup_int (int_keyed hk) ht Try.underlying3 (zero_int w) (keyOf_int_mk hk wz)
    rw [hrun, info_inj (hat.symm.trans (hf z wz))]

theorem reads_del {D : DataW Unit} {f : Int → Int} (hf : ∀ z, (Lit.int .i64 z).wf = true → D.atKey (.int .i64 z) (.lit (.int .i64 0)) = .lit (.int .i64 (f z))) (z : Int) :
    ∀ x, (Lit.int .i64 x).wf = true → (D.del (.int .i64 z)).atKey (.int .i64 x) (.lit (.int .i64 0)) = .lit (.int .i64 (upd f z 0 x)) := by
  intro x wx
  by_cases hx : x = z
  · subst hx
    rw [atKey_del_same, upd_same]
  · rw [atKey_del_other (by intro h; injection h with _ h; exact hx h), upd_other hx]
    exact hf x wx
end Go.Proofs.Ytmjkopejbdipcaa
namespace Go.Proofs.Ytmjkopejbdipcaa
set_option linter.unusedSimpArgs false
set_option linter.unusedVariables false
open Go.RowKit Go.Maps
set_option maxHeartbeats 400000 in
set_option maxRecDepth 100000 in
theorem clone_int (v : Option Nat) (n : Nat) (f : Int → Int) (w : World) (h : MapF w 3 v n f) :
    Calls Try.prog 33 #[.map v] w fun e w' => ∃ v', e = .returned (.map v') ∧ (v' = none ∨ v' = some w.heap.size) ∧ MapF w' 3 v' n f ∧ Below w.heap.size w w' := by
  have hq := fun (w : World) (r : Option Nat) => run_eql_map_nil (P := Try.prog) w _ _ _ r Try.underlying76
  rcases h with ⟨rfl, hf⟩ | ⟨b, D, rfl, hown, hi, hf⟩
  · go_enter Try.func33, Try.ntmps33
    go_wp2
    go_ret
    exact ⟨_, rfl, .inl rfl, .inl ⟨rfl, hf⟩, Below.refl _ _⟩
  · have hown0 := hown
    obtain ⟨es, clock, hb, F, hs, hD⟩ := hown
    have hta := fun (W : World) (v : Value) => typeAssert_map W 76 20 _ _ v Try.underlying76
    go_enter Try.func33, Try.ntmps33
    go_wp2
    rw [extern_clone w 76 b es clock hb]
    (try simp only [Result.andThen])
    rw [Oper.upon_value]
    go_wp2
    go_ret
    exact ⟨_, rfl, .inr rfl, .inr ⟨_, D, rfl, ⟨es, clock, (MapKept.heap_alloc w _).1, F, hs, hD⟩, hi, hf⟩, (Below.refl _ _).alloc (Nat.le_refl _) _⟩
set_option maxHeartbeats 400000 in
set_option maxRecDepth 100000 in
theorem more_int (v : Option Nat) (n : Nat) (f : Int → Int) (z : Int) (w : World) (h : MapF w 3 v n f) (hn : n ≤ 1000) (wz : (Lit.int .i64 z).wf = true) (h0 : 0 ≤ f z) (h1 : f z ≤ 1000) :
    Calls Try.prog 31 #[.map v, .int .i64 z] w fun e w' => ∃ v', e = .returned (.map v') ∧ MapF w' 3 v' (n + 1) (upd f z (f z + 1)) ∧ Below w.heap.size w w' := by
  have hq := fun (w : World) (r : Option Nat) => run_eql_map_nil (P := Try.prog) w _ _ _ r Try.underlying76
  have hmm := @run_makeMap Try.prog
  go_enter Try.func31, Try.ntmps31
  go_wp2_with fail
  refine (clone_int v n f w h).mono ?_
  rintro e w1 ⟨v', rfl, hv, hm, hb1⟩
  rcases hm with ⟨rfl, hf⟩ | ⟨b, D, rfl, hown, hi, hf⟩
  · have hzz : f z = 0 := hf z
    have Hf := hide hf
    clear hf
    have hownM : (w1.alloc (.map #[] 0)).ownsMap Try.prog 3 (plainElem (H := Unit) Try.prog 3) w1.heap.size n (.map []) := (World.ownsMap_made _ _ _ _).mono (Nat.zero_le _)
    have hl : (DataW.map [] : DataW Unit).atKey (.int .i64 z) (.lit (.int .i64 0)) = .lit (.int .i64 0) := rfl
    have HL := hide hl
    clear hl
    have HZ := hide hzz
    clear hzz
    go_wp2_with (first
        | (at_lookup; refine wpList_lookup_own_int _ rfl _ _ 76 rfl 3 3 .i64 law_int Try.underlying76 Try.underlying3 (zero_int _) w1.heap.size n (.map []) rfl hownM _ _ rfl (keyOf_int_mk Try.underlying3 wz) ?_; intro c hat hwc; obtain rfl : c = 0 := info_inj (hat.symm.trans HL.out))
        | (at_mapUpdate; refine wpList_mapUpdate_own _ rfl _ _ _ 76 rfl 3 3 law_int Try.underlying76 _ w1.heap.size n (.map []) rfl hownM (by unfold maxLen; omega) _ _ _ rfl rfl (keyOf_int_mk Try.underlying3 wz) _ [] (plainElem_int Try.underlying3 (WalkArith.wf_i64 (by omega))) ?_; intro w2 hown2 hg2))
    go_ret
    refine ⟨_, rfl, .inr ⟨_, _, rfl, hown2, isMap_empty.put _ _, ?_⟩, ((hb1.alloc hb1.size _).grown hg2 (by simp; have := hb1.size; omega) (fun k hk => by cases hk; exact hb1.size))⟩
    have hr := reads_upd (f := f) isMap_empty (fun x wx => by rw [Hf.out x]; rfl) z 1 wz
    rw [HZ.out]
    exact hr
  · have hbb : w.heap.size ≤ b := by
      rcases hv with hv | hv
      · cases hv
      · cases hv
        exact Nat.le_refl _
    have hl := hf z wz
    have HL := hide hl
    clear hl
    have Hf := hide hf
    clear hf hv
    go_wp2_with (first
        | (at_lookup; refine wpList_lookup_own_int _ rfl _ _ 76 rfl 3 3 .i64 law_int Try.underlying76 Try.underlying3 (zero_int _) b n D rfl hown _ _ rfl (keyOf_int_mk Try.underlying3 wz) ?_; intro c hat hwc; obtain rfl : c = f z := info_inj (hat.symm.trans HL.out))
        | (at_mapUpdate; refine wpList_mapUpdate_own _ rfl _ _ _ 76 rfl 3 3 law_int Try.underlying76 _ b n D rfl hown (by unfold maxLen; omega) _ _ _ rfl rfl (keyOf_int_mk Try.underlying3 wz) _ [] (plainElem_int Try.underlying3 (WalkArith.wf_i64 (by omega))) ?_; intro w2 hown2 hg2))
    go_ret
    exact ⟨_, rfl, .inr ⟨_, _, rfl, hown2, hi.put _ _, reads_upd hi Hf.out z _ wz⟩, hb1.grown hg2 hb1.size (fun k hk => by cases hk; exact hbb)⟩
set_option maxHeartbeats 400000 in
set_option maxRecDepth 100000 in
theorem more_loc (v : Option Nat) (n : Nat) (f : Int → Int) (z : Int) (w : World) (h : MapF w 64 v n f) (hn : n ≤ 1000) (wz : (Lit.int .i64 z).wf = true) (h0 : 0 ≤ f z) (h1 : f z ≤ 1000) :
    Calls Try.prog 32 #[.map v, .int .i64 z] w fun e w' => ∃ v', e = .returned (.map v') ∧ MapF w' 64 v' (n + 1) (upd f z (f z + 1)) ∧ Below w.heap.size w w' := by
  have hq := fun (w : World) (r : Option Nat) => run_eql_map_nil (P := Try.prog) w _ _ _ r Try.underlying77
  have hmm := @run_makeMap Try.prog
  go_enter Try.func32, Try.ntmps32
  go_wp2_with fail
  refine (clone_loc v n f w h).mono ?_
  rintro e w1 ⟨v', rfl, hv, hm, hb1⟩
  rcases hm with ⟨rfl, hf⟩ | ⟨b, D, rfl, hown, hi, hf⟩
  · have hzz : f z = 0 := hf z
    have Hf := hide hf
    clear hf
    have hownM : (w1.alloc (.map #[] 0)).ownsMap Try.prog 64 (plainElem (H := Unit) Try.prog 3) w1.heap.size n (.map []) := (World.ownsMap_made _ _ _ _).mono (Nat.zero_le _)
    have hl : (DataW.map [] : DataW Unit).atKey (.int .i64 z) (.lit (.int .i64 0)) = .lit (.int .i64 0) := rfl
    have HL := hide hl
    clear hl
    have HZ := hide hzz
    clear hzz
    go_wp2_with (first
        | (at_lookup; refine wpList_lookup_own_int _ rfl _ _ 77 rfl 64 3 .i64 law_loc Try.underlying77 Try.underlying3 (zero_int _) w1.heap.size n (.map []) rfl hownM _ _ rfl (keyOf_int_mk Try.underlying64 wz) ?_; intro c hat hwc; obtain rfl : c = 0 := info_inj (hat.symm.trans HL.out))
        | (at_mapUpdate; refine wpList_mapUpdate_own _ rfl _ _ _ 77 rfl 64 3 law_loc Try.underlying77 _ w1.heap.size n (.map []) rfl hownM (by unfold maxLen; omega) _ _ _ rfl rfl (keyOf_int_mk Try.underlying64 wz) _ [] (plainElem_int Try.underlying3 (WalkArith.wf_i64 (by omega))) ?_; intro w2 hown2 hg2))
    go_ret
    refine ⟨_, rfl, .inr ⟨_, _, rfl, hown2, isMap_empty.put _ _, ?_⟩, ((hb1.alloc hb1.size _).grown hg2 (by simp; have := hb1.size; omega) (fun k hk => by cases hk; exact hb1.size))⟩
    have hr := reads_upd (f := f) isMap_empty (fun x wx => by rw [Hf.out x]; rfl) z 1 wz
    rw [HZ.out]
    exact hr
  · have hbb : w.heap.size ≤ b := by
      rcases hv with hv | hv
      · cases hv
      · cases hv
        exact Nat.le_refl _
    have hl := hf z wz
    have HL := hide hl
    clear hl
    have Hf := hide hf
    clear hf hv
    go_wp2_with (first
        | (at_lookup; refine wpList_lookup_own_int _ rfl _ _ 77 rfl 64 3 .i64 law_loc Try.underlying77 Try.underlying3 (zero_int _) b n D rfl hown _ _ rfl (keyOf_int_mk Try.underlying64 wz) ?_; intro c hat hwc; obtain rfl : c = f z := info_inj (hat.symm.trans HL.out))
        | (at_mapUpdate; refine wpList_mapUpdate_own _ rfl _ _ _ 77 rfl 64 3 law_loc Try.underlying77 _ b n D rfl hown (by unfold maxLen; omega) _ _ _ rfl rfl (keyOf_int_mk Try.underlying64 wz) _ [] (plainElem_int Try.underlying3 (WalkArith.wf_i64 (by omega))) ?_; intro w2 hown2 hg2))
    go_ret
    exact ⟨_, rfl, .inr ⟨_, _, rfl, hown2, hi.put _ _, reads_upd hi Hf.out z _ wz⟩, hb1.grown hg2 hb1.size (fun k hk => by cases hk; exact hbb)⟩
end Go.Proofs.Ytmjkopejbdipcaa
namespace Go.Proofs.Ytmjkopejbdipcaa
set_option linter.unusedSimpArgs false
set_option linter.unusedVariables false
open Go.RowKit Go.Maps

/-- An advisor's two maps. -/
def AdvR (w : World) (v1 v2 : Option Nat) (n : Nat) (f h : Int → Int) : Prop := MapF w 3 v1 n f ∧ MapF w 64 v2 n h
theorem AdvR.below {w w' : World} {v1 v2 : Option Nat} {n : Nat} {f h : Int → Int} (a : AdvR w v1 v2 n f h) (hb : Below w.heap.size w w') : AdvR w' v1 v2 n f h := ⟨a.1.below hb, a.2.below hb⟩

set_option maxHeartbeats 400000 in
theorem fail_no (th t at_ : Int) (v1 v2 : Option Nat) (w : World) (h : t < 1 ∨ th < t) :
    Calls Try.prog 15 #[.agg #[.int .i64 th, .map v1, .map v2], .int .i64 t, .int .i64 at_] w fun e w' => e = .returned (.agg #[.int .i64 th, .map v1, .map v2]) ∧ Below w.heap.size w w' := by
  by_cases h1 : t < 1
  case neg =>
    have hd : decide (t ≤ th) = false := by simp; omega
    have h2 : 1 ≤ t := by omega
    clear h h1
    go_enter Try.func15, Try.ntmps15
    go_wp2
    exact bodyPost_ret (v := .agg #[.int .i64 th, .map v1, .map v2]) (by simp [results, Try.results15, go_sem]) rfl ⟨rfl, (by repeat' (first | with_reducible exact Below.refl _ _ | with_reducible assumption | with_reducible refine Below.alloc ?_ ?_ _ | with_reducible refine Below.setCell ?_ ?_ _ | with_reducible refine Below.drew ?_ | with_reducible refine below_drewN ?_ _ | with_reducible refine Below.trans ?_ (Below.mono (by with_reducible assumption) ?_) | omega | (simp <;> omega)))⟩
  case pos =>
    go_enter Try.func15, Try.ntmps15
    go_wp2
    exact bodyPost_ret (v := .agg #[.int .i64 th, .map v1, .map v2]) (by simp [results, Try.results15, go_sem]) rfl ⟨rfl, (by repeat' (first | with_reducible exact Below.refl _ _ | with_reducible assumption | with_reducible refine Below.alloc ?_ ?_ _ | with_reducible refine Below.setCell ?_ ?_ _ | with_reducible refine Below.drew ?_ | with_reducible refine below_drewN ?_ _ | with_reducible refine Below.trans ?_ (Below.mono (by with_reducible assumption) ?_) | omega | (simp <;> omega)))⟩

set_option maxHeartbeats 1000000 in
theorem fail_yes (th t at_ : Int) (v1 v2 : Option Nat) (n : Nat) (f h : Int → Int) (w : World) (ht : 1 ≤ t) (hth : t ≤ th) (h8 : th ≤ 8) (wa : (Lit.int .i64 at_).wf = true) (ha : AdvR w v1 v2 n f h) (hn : n ≤ 1000)
    (f0 : 0 ≤ f t) (f1 : f t ≤ 1000) (g0 : 0 ≤ h at_) (g1 : h at_ ≤ 1000) :
    Calls Try.prog 15 #[.agg #[.int .i64 th, .map v1, .map v2], .int .i64 t, .int .i64 at_] w fun e w' => ∃ v1' v2', e = .returned (.agg #[.int .i64 th, .map v1', .map v2']) ∧ AdvR w' v1' v2' (n + 1) (upd f t (f t + 1)) (upd h at_ (h at_ + 1)) ∧ Below w.heap.size w w' := by
  obtain ⟨ha1, ha2⟩ := ha
  have wt : (Lit.int .i64 t).wf = true := WalkArith.wf_i64 (by omega)
  go_enter Try.func15, Try.ntmps15
  go_wp2
  go_region_held3 (fun w' => w'.cell? ⟨w.heap.size, 0, none⟩ = some (.int .i64 th) ∧ w'.cell? ⟨w.heap.size, 1, none⟩ = some (.map v1) ∧ w'.cell? ⟨w.heap.size, 2, none⟩ = some (.map v2)) (first | exact ⟨by go_simp, by go_simp, by go_simp⟩ | go_keep)
    (first
      | (go_at_call 31; refine (more_int v1 n f t _ (ha1.below (by repeat' (first | with_reducible exact Below.refl _ _ | with_reducible assumption | with_reducible refine Below.alloc ?_ ?_ _ | with_reducible refine Below.setCell ?_ ?_ _ | with_reducible refine Below.drew ?_ | with_reducible refine below_drewN ?_ _ | with_reducible refine Below.trans ?_ (Below.mono (by with_reducible assumption) ?_) | omega | (simp <;> omega)))) hn wt f0 f1).mono ?_; rintro e w1 ⟨v1', rfl, hm1, hb1⟩; obtain ⟨hc1, hf1⟩ := bcell hb1; have hy1 : w.heap.size < w1.heap.size := (by have h := hb1.size; (try simp at h); omega); have hy2 : w.heap.size + 1 < w1.heap.size := (by have h := hb1.size; (try simp at h); omega))
      | (go_at_call 32; refine (more_loc v2 n h at_ _ (ha2.below (by repeat' (first | with_reducible exact Below.refl _ _ | with_reducible assumption | with_reducible refine Below.alloc ?_ ?_ _ | with_reducible refine Below.setCell ?_ ?_ _ | with_reducible refine Below.drew ?_ | with_reducible refine below_drewN ?_ _ | with_reducible refine Below.trans ?_ (Below.mono (by with_reducible assumption) ?_) | omega | (simp <;> omega)))) hn wa g0 g1).mono ?_; rintro e w2 ⟨v2', rfl, hm2, hb2⟩; obtain ⟨hc2, hf2⟩ := bcell hb2; have hy3 : w.heap.size < w2.heap.size := (by have h := hb2.size; (try simp at h); omega); have hy4 : w.heap.size + 1 < w2.heap.size := (by have h := hb2.size; (try simp at h); omega)))
  go_wp2
  have e0 : w2.cell? ⟨w.heap.size + 1, 0, none⟩ = some (.int .i64 0) := by go_simp
  have e1 : w2.cell? ⟨w.heap.size + 1, 1, none⟩ = some (.map none) := by go_simp
  have e2 : w2.cell? ⟨w.heap.size + 1, 2, none⟩ = some (.map none) := by go_simp
  refine bodyPost_ret (v := .agg #[.int .i64 th, .map v1', .map v2']) (by simp [results, Try.results15, go_sem, e0, e1, e2]) rfl ⟨v1', v2', rfl, ⟨?_, ?_⟩, (by repeat' (first | with_reducible exact Below.refl _ _ | with_reducible assumption | with_reducible refine Below.alloc ?_ ?_ _ | with_reducible refine Below.setCell ?_ ?_ _ | with_reducible refine Below.drew ?_ | with_reducible refine below_drewN ?_ _ | with_reducible refine Below.trans ?_ (Below.mono (by with_reducible assumption) ?_) | omega | (simp <;> omega)))⟩
  · exact (hm1.below hb2).set3 e0 e1 e2 _ _ _
  · exact hm2.set3 e0 e1 e2 _ _ _

set_option maxHeartbeats 400000 in
theorem win_no (th t : Int) (v1 v2 : Option Nat) (w : World) (h : t < 1 ∨ th < t) :
    Calls Try.prog 17 #[.agg #[.int .i64 th, .map v1, .map v2], .int .i64 t] w fun e w' => e = .returned (.agg #[.int .i64 th, .map v1, .map v2]) ∧ Below w.heap.size w w' := by
  by_cases h1 : t < 1
  case neg =>
    have hd : decide (t ≤ th) = false := by simp; omega
    have h2 : 1 ≤ t := by omega
    clear h h1
    go_enter Try.func17, Try.ntmps17
    go_wp2
    exact bodyPost_ret (v := .agg #[.int .i64 th, .map v1, .map v2]) (by simp [results, Try.results17, go_sem]) rfl ⟨rfl, (by repeat' (first | with_reducible exact Below.refl _ _ | with_reducible assumption | with_reducible refine Below.alloc ?_ ?_ _ | with_reducible refine Below.setCell ?_ ?_ _ | with_reducible refine Below.drew ?_ | with_reducible refine below_drewN ?_ _ | with_reducible refine Below.trans ?_ (Below.mono (by with_reducible assumption) ?_) | omega | (simp <;> omega)))⟩
  case pos =>
    go_enter Try.func17, Try.ntmps17
    go_wp2
    exact bodyPost_ret (v := .agg #[.int .i64 th, .map v1, .map v2]) (by simp [results, Try.results17, go_sem]) rfl ⟨rfl, (by repeat' (first | with_reducible exact Below.refl _ _ | with_reducible assumption | with_reducible refine Below.alloc ?_ ?_ _ | with_reducible refine Below.setCell ?_ ?_ _ | with_reducible refine Below.drew ?_ | with_reducible refine below_drewN ?_ _ | with_reducible refine Below.trans ?_ (Below.mono (by with_reducible assumption) ?_) | omega | (simp <;> omega)))⟩

theorem is_yes (th t : Int) (v1 v2 : Option Nat) (w : World) (ht : 1 ≤ t) (hth : t ≤ th) :
    Calls Try.prog 30 #[.agg #[.int .i64 th, .map v1, .map v2], .int .i64 t] w fun e w' => e = .returned (.bool true) ∧ Below w.heap.size w w' := by
  go_enter Try.func30, Try.ntmps30
  go_wp2
  go_ret
  exact ⟨rfl, (by repeat' (first | with_reducible exact Below.refl _ _ | with_reducible assumption | with_reducible refine Below.alloc ?_ ?_ _ | with_reducible refine Below.setCell ?_ ?_ _ | with_reducible refine Below.drew ?_ | with_reducible refine below_drewN ?_ _ | with_reducible refine Below.trans ?_ (Below.mono (by with_reducible assumption) ?_) | omega | (simp <;> omega)))⟩
theorem is_no (th t : Int) (v1 v2 : Option Nat) (w : World) (h : t < 1 ∨ th < t) :
    Calls Try.prog 30 #[.agg #[.int .i64 th, .map v1, .map v2], .int .i64 t] w fun e w' => e = .returned (.bool false) ∧ Below w.heap.size w w' := by
  by_cases h1 : t < 1
  case neg =>
    have hd : decide (t ≤ th) = false := by simp; omega
    have h2 : 1 ≤ t := by omega
    clear h h1
    go_enter Try.func30, Try.ntmps30
    go_wp2
    go_ret
    exact ⟨rfl, (by repeat' (first | with_reducible exact Below.refl _ _ | with_reducible assumption | with_reducible refine Below.alloc ?_ ?_ _ | with_reducible refine Below.setCell ?_ ?_ _ | with_reducible refine Below.drew ?_ | with_reducible refine below_drewN ?_ _ | with_reducible refine Below.trans ?_ (Below.mono (by with_reducible assumption) ?_) | omega | (simp <;> omega)))⟩
  case pos =>
    go_enter Try.func30, Try.ntmps30
    go_wp2
    go_ret
    exact ⟨rfl, (by repeat' (first | with_reducible exact Below.refl _ _ | with_reducible assumption | with_reducible refine Below.alloc ?_ ?_ _ | with_reducible refine Below.setCell ?_ ?_ _ | with_reducible refine Below.drew ?_ | with_reducible refine below_drewN ?_ _ | with_reducible refine Below.trans ?_ (Below.mono (by with_reducible assumption) ?_) | omega | (simp <;> omega)))⟩

set_option maxHeartbeats 1000000 in
theorem win_yes (th t : Int) (v1 v2 : Option Nat) (n : Nat) (f h : Int → Int) (w : World) (ht : 1 ≤ t) (hth : t ≤ th) (h8 : th ≤ 8) (ha : AdvR w v1 v2 n f h) :
    Calls Try.prog 17 #[.agg #[.int .i64 th, .map v1, .map v2], .int .i64 t] w fun e w' => ∃ v1', e = .returned (.agg #[.int .i64 th, .map v1', .map v2]) ∧ AdvR w' v1' v2 n (upd f t 0) h ∧ Below w.heap.size w w' := by
  obtain ⟨ha1, ha2⟩ := ha
  have wt : (Lit.int .i64 t).wf = true := WalkArith.wf_i64 (by omega)
  go_enter Try.func17, Try.ntmps17
  go_wp2_with fail
  refine (is_yes th t v1 v2 _ ht hth).mono ?_
  rintro e w0 ⟨rfl, hb0⟩
  obtain ⟨hc0, hf0⟩ := bcell hb0
  have hy01 : w.heap.size < w0.heap.size := (by have h := hb0.size; (try simp at h); omega)
  have hy02 : w.heap.size + 1 < w0.heap.size := (by have h := hb0.size; (try simp at h); omega)
  go_wp2_with fail
  refine (clone_int v1 n f _ (ha1.below (by repeat' (first | with_reducible exact Below.refl _ _ | with_reducible assumption | with_reducible refine Below.alloc ?_ ?_ _ | with_reducible refine Below.setCell ?_ ?_ _ | with_reducible refine Below.drew ?_ | with_reducible refine below_drewN ?_ _ | with_reducible refine Below.trans ?_ (Below.mono (by with_reducible assumption) ?_) | omega | (simp <;> omega))))).mono ?_
  rintro e w1 ⟨v1', rfl, hv, hm, hb1⟩
  have hm0 := hm
  obtain ⟨hc1, hf1⟩ := bcell hb1
  have hy1 : w.heap.size < w1.heap.size := (by have h := hb1.size; (try simp at h); omega)
  have hy2 : w.heap.size + 1 < w1.heap.size := (by have h := hb1.size; (try simp at h); omega)
  have hdn := fun (w : World) (ty : TypeId) => Maps.drop_nil (P := Try.prog) (w := w) law_int Try.underlying76 (keyOf_int_mk Try.underlying3 wt) ty
  rcases hm with ⟨rfl, hf⟩ | ⟨b, D, rfl, hown, hi, hf⟩
  · have Hf := hide hf
    clear hf
    go_wp2
    have e0 : w1.cell? ⟨w.heap.size + 1, 0, none⟩ = some (.int .i64 0) := by go_simp
    have e1 : w1.cell? ⟨w.heap.size + 1, 1, none⟩ = some (.map none) := by go_simp
    have e2 : w1.cell? ⟨w.heap.size + 1, 2, none⟩ = some (.map none) := by go_simp
    have hB2 : MapF w1 64 v2 n h := ha2.below (by repeat' (first | with_reducible exact Below.refl _ _ | with_reducible assumption | with_reducible refine Below.alloc ?_ ?_ _ | with_reducible refine Below.setCell ?_ ?_ _ | with_reducible refine Below.drew ?_ | with_reducible refine below_drewN ?_ _ | with_reducible refine Below.trans ?_ (Below.mono (by with_reducible assumption) ?_) | omega | (simp <;> omega)))
    refine bodyPost_ret (v := .agg #[.int .i64 th, .map none, .map v2]) (by simp [results, Try.results17, go_sem, e0, e1, e2]) rfl ⟨none, rfl, ⟨.inl ⟨rfl, fun z => ?_⟩, hB2.set3 e0 e1 e2 _ _ _⟩, (by repeat' (first | with_reducible exact Below.refl _ _ | with_reducible assumption | with_reducible refine Below.alloc ?_ ?_ _ | with_reducible refine Below.setCell ?_ ?_ _ | with_reducible refine Below.drew ?_ | with_reducible refine below_drewN ?_ _ | with_reducible refine Below.trans ?_ (Below.mono (by with_reducible assumption) ?_) | omega | (simp <;> omega)))⟩
    unfold upd
    split
    · rfl
    · exact Hf.out z
  · obtain rfl : b = w0.heap.size := by
      rcases hv with hv | hv
      · cases hv
      · cases hv
        rfl
    have Hf := hide hf
    clear hf hv
    go_wp2_with (at_delete; refine wpList_delete_own _ rfl _ _ 76 3 rfl 3 law_int Try.underlying76 _ w0.heap.size n D rfl hown _ _ rfl (keyOf_int_mk Try.underlying3 wt) ?_; intro w2 hown2 hturn; have hb2 : Below w0.heap.size w1 w2 := (Below.refl _ _).grown hturn.grown hb1.size (fun k hk => by cases hk; exact Nat.le_refl _); obtain ⟨hc2, hf2⟩ := bcellB hb2; have hy5 : w.heap.size < w2.heap.size := (by have h := hb2.size; omega); have hy6 : w.heap.size + 1 < w2.heap.size := (by have h := hb2.size; omega))
    have e0 : w2.cell? ⟨w.heap.size + 1, 0, none⟩ = some (.int .i64 0) := by go_simp
    have e1 : w2.cell? ⟨w.heap.size + 1, 1, none⟩ = some (.map none) := by go_simp
    have e2 : w2.cell? ⟨w.heap.size + 1, 2, none⟩ = some (.map none) := by go_simp
    have hM1 : MapF w2 3 (some w0.heap.size) n (upd f t 0) := .inr ⟨_, _, rfl, hown2, hi.del _, reads_del Hf.out t⟩
    have hM0 : MapF w0 64 v2 n h := ha2.below (by repeat' (first | with_reducible exact Below.refl _ _ | with_reducible assumption | with_reducible refine Below.alloc ?_ ?_ _ | with_reducible refine Below.setCell ?_ ?_ _ | with_reducible refine Below.drew ?_ | with_reducible refine below_drewN ?_ _ | with_reducible refine Below.trans ?_ (Below.mono (by with_reducible assumption) ?_) | omega | (simp <;> omega)))
    have hM2 : MapF w2 64 v2 n h := hM0.below (hb1.trans hb2)
    exact bodyPost_ret (v := .agg #[.int .i64 th, .map (some w0.heap.size), .map v2]) (by simp [results, Try.results17, go_sem, e0, e1, e2]) rfl ⟨_, rfl, ⟨hM1.set3 e0 e1 e2 _ _ _, hM2.set3 e0 e1 e2 _ _ _⟩, (by repeat' (first | with_reducible exact Below.refl _ _ | with_reducible assumption | with_reducible refine Below.alloc ?_ ?_ _ | with_reducible refine Below.setCell ?_ ?_ _ | with_reducible refine Below.drew ?_ | with_reducible refine below_drewN ?_ _ | with_reducible refine Below.trans ?_ (Below.mono (by with_reducible assumption) ?_) | omega | (simp <;> omega)))⟩
end Go.Proofs.Ytmjkopejbdipcaa
