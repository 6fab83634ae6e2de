/- Give on a task in any state, for the wrapped code and for the code in one; what region 28 of the law holds. -/
import Derived.Test.YtfldjbojonbmpaaW8
namespace Go.Proofs.Ytfldjbojonbmpaa
open Go.RowKit

/-- The slice's block lies behind B. -/
def FarB (B : Nat) (A : Option Addr) : Prop := ∀ b off, A = some ⟨b, off, none⟩ → B < b
/-- What is known of the results behind Give. -/
def GavePost (w w' : World) (A A' : Option Addr) (m m' cp' : Nat) : Prop := GotsR w' A' m' cp' ∧ m' ≤ m + 1 ∧ (∀ B, FarB B A → B < w.heap.size → FarB B A')
theorem nxt_d (n : Int) (c : CS) (g : GS) : (nxt n c g).2.2 = (nxt n c g).1.d := by
  unfold nxt
  repeat' split
  all_goals first | rfl | (simp only []; assumption) | (simp_all)

/-- A value of one cell. -/
def Sto (v : Value) : Prop := ∀ (P : Program) (w : World) (a : Addr) (m : Mode), (store a v m).run P w = stored P w a v m
theorem Sto.nil : Sto .nilFunc := fun P w a m => run_store P w a _ m rfl
theorem Sto.nx (T : TypeId) (p : Value) : Sto (.func (Fn.method "Next") #[.iface T p] #[]) := fun P w a m => run_store P w a _ m rfl

theorem give_both (n : Int) (c : CS) (g : GS) (a : AS) (nv1 nv2 : Value) (h0 : 0 ≤ c.t) (h1 : c.t ≤ 1000)
    (hd1 : c.d = true → nv1 = .nilFunc ∧ nv2 = .nilFunc ∧ a = A0) (hd2 : c.d = false → nv1 = (.func (Fn.method "Next") #[.iface 66 (.agg #[.iface 72 (.agg #[.int .i64 0, .int .i64 0, .int .i64 n, .bool (c).b, .bool (c).s, .bool (c).d, .int .i64 (c).t, .int .i64 (c).a]), .int .i64 0, .bool true])] #[]) ∧ nv2 = (.func (Fn.method "Next") #[.iface 72 (.agg #[.int .i64 0, .int .i64 0, .int .i64 n, .bool (c).b, .bool (c).s, .bool (c).d, .int .i64 (c).t, .int .i64 (c).a])] #[])) :
    ∃ (c' : CS) (a' : AS) (nv1' nv2' : Value), Sto nv1' ∧ Sto nv2' ∧ 0 ≤ c'.t ∧ c'.t ≤ c.t + 1 ∧ (c'.d = true → nv1' = .nilFunc ∧ nv2' = .nilFunc ∧ a' = A0) ∧ (c'.d = false → nv1' = (.func (Fn.method "Next") #[.iface 66 (.agg #[.iface 72 (.agg #[.int .i64 0, .int .i64 0, .int .i64 n, .bool (c').b, .bool (c').s, .bool (c').d, .int .i64 (c').t, .int .i64 (c').a]), .int .i64 0, .bool true])] #[]) ∧ nv2' = (.func (Fn.method "Next") #[.iface 72 (.agg #[.int .i64 0, .int .i64 0, .int .i64 n, .bool (c').b, .bool (c').s, .bool (c').d, .int .i64 (c').t, .int .i64 (c').a])] #[])) ∧
      (∀ (A : Option Addr) (m cp : Nat) w, m ≤ 1000 → GotsR w A m cp → Calls Try.prog 10 #[(.agg #[.iface 66 (.agg #[.iface 72 (.agg #[.int .i64 0, .int .i64 0, .int .i64 n, .bool (c).b, .bool (c).s, .bool (c).d, .int .i64 (c).t, .int .i64 (c).a]), .int .i64 0, .bool true]), nv1, .int .i64 (a).o, .int .i64 (a).l, .int .i64 (a).v, .int .u32 (a).r, .int .u32 (a).f, .int .i64 (a).v2, .int .u32 (a).r2, .int .u32 (a).f2, .slice A m cp]), (.agg #[.int .i64 (g).v, .int .u32 (g).r, .int .u32 (g).f, .bool (g).k])] w fun e w' => ∃ A' m' cp', e = .returned (.agg #[.iface 66 (.agg #[.iface 72 (.agg #[.int .i64 0, .int .i64 0, .int .i64 n, .bool (c').b, .bool (c').s, .bool (c').d, .int .i64 (c').t, .int .i64 (c').a]), .int .i64 0, .bool true]), nv1', .int .i64 (a').o, .int .i64 (a').l, .int .i64 (a').v, .int .u32 (a').r, .int .u32 (a').f, .int .i64 (a').v2, .int .u32 (a').r2, .int .u32 (a').f2, .slice A' m' cp']) ∧ GavePost w w' A A' m m' cp' ∧ Below w.heap.size w w') ∧
      (∀ (A : Option Addr) (m cp : Nat) w, m ≤ 1000 → GotsR w A m cp → Calls Try.prog 10 #[(.agg #[.iface 72 (.agg #[.int .i64 0, .int .i64 0, .int .i64 n, .bool (c).b, .bool (c).s, .bool (c).d, .int .i64 (c).t, .int .i64 (c).a]), nv2, .int .i64 (a).o, .int .i64 (a).l, .int .i64 (a).v, .int .u32 (a).r, .int .u32 (a).f, .int .i64 (a).v2, .int .u32 (a).r2, .int .u32 (a).f2, .slice A m cp]), (.agg #[.int .i64 (g).v, .int .u32 (g).r, .int .u32 (g).f, .bool (g).k])] w fun e w' => ∃ A' m' cp', e = .returned (.agg #[.iface 72 (.agg #[.int .i64 0, .int .i64 0, .int .i64 n, .bool (c').b, .bool (c').s, .bool (c').d, .int .i64 (c').t, .int .i64 (c').a]), nv2', .int .i64 (a').o, .int .i64 (a').l, .int .i64 (a').v, .int .u32 (a').r, .int .u32 (a').f, .int .i64 (a').v2, .int .u32 (a').r2, .int .u32 (a').f2, .slice A' m' cp']) ∧ GavePost w w' A A' m m' cp' ∧ Below w.heap.size w w') := by
  have hfar : ∀ (w : World) (A A' : Option Addr), NewB w A' → ∀ B, FarB B A → B < w.heap.size → FarB B A' := fun w A A' h B _ hB b off e => Nat.lt_of_lt_of_le hB (h b off e)
  cases hcd : c.d with
  | true =>
    obtain ⟨rfl, rfl, rfl⟩ := hd1 hcd
    refine ⟨c, A0, .nilFunc, .nilFunc, Sto.nil, Sto.nil, h0, by omega, fun _ => ⟨rfl, rfl, rfl⟩, fun h => (by rw [hcd] at h; cases h), fun A m cp w hm hg => ?_, fun A m cp w hm hg => ?_⟩
    · refine (give_nil 66 _ A0 g A m cp w).mono ?_
      rintro e w' ⟨rfl, hb⟩
      exact ⟨A, m, cp, by rw [hcd], ⟨hg.below hb, by omega, fun B h _ => h⟩, hb⟩
    · refine (give_nil 72 _ A0 g A m cp w).mono ?_
      rintro e w' ⟨rfl, hb⟩
      exact ⟨A, m, cp, by rw [hcd], ⟨hg.below hb, by omega, fun B h _ => h⟩, hb⟩
  | false =>
    obtain ⟨rfl, rfl⟩ := hd2 hcd
    obtain ⟨t0, t1⟩ := nxt_t n c g c.t h0 (Int.le_refl _)
    have hn := nxt_d n c g
    cases hd : (nxt n c g).2.2 with
    | true =>
      rw [hd] at hn
      refine ⟨(nxt n c g).1, A0, .nilFunc, .nilFunc, Sto.nil, Sto.nil, t0, t1, fun _ => ⟨rfl, rfl, rfl⟩, fun h => (by rw [← hn] at h; cases h), fun A m cp w hm hg => ?_, fun A m cp w hm hg => ?_⟩
      · refine (give_done 66 44 (.agg #[.iface 72 (.agg #[.int .i64 0, .int .i64 0, .int .i64 n, .bool (c).b, .bool (c).s, .bool (c).d, .int .i64 (c).t, .int .i64 (c).a]), .int .i64 0, .bool true]) (.agg #[.iface 72 (.agg #[.int .i64 0, .int .i64 0, .int .i64 n, .bool ((nxt n c g).1).b, .bool ((nxt n c g).1).s, .bool ((nxt n c g).1).d, .int .i64 ((nxt n c g).1).t, .int .i64 ((nxt n c g).1).a]), .int .i64 0, .bool true]) _ a (nxt n c g).2.1 g A m cp w codeT_wr wr_meth wr_enter hm hg (fun W _ => ?_)).mono ?_
        · have := wn_inner n c true g W h0 (by omega)
          simp only [if_pos, hd] at this
          exact this
        · rintro e w' ⟨A', cp', rfl, hG, hN, hb⟩
          exact ⟨A', m + 1, cp', rfl, ⟨hG, Nat.le_refl _, hfar w A A' hN⟩, hb⟩
      · refine (give_done 72 45 (.agg #[.int .i64 0, .int .i64 0, .int .i64 n, .bool (c).b, .bool (c).s, .bool (c).d, .int .i64 (c).t, .int .i64 (c).a]) (.agg #[.int .i64 0, .int .i64 0, .int .i64 n, .bool ((nxt n c g).1).b, .bool ((nxt n c g).1).s, .bool ((nxt n c g).1).d, .int .i64 ((nxt n c g).1).t, .int .i64 ((nxt n c g).1).a]) _ a (nxt n c g).2.1 g A m cp w codeT_code code_meth code_enter hm hg (fun W _ => ?_)).mono ?_
        · have := code_next n c g W h0 (by omega)
          rw [hd] at this
          exact this
        · rintro e w' ⟨A', cp', rfl, hG, hN, hb⟩
          exact ⟨A', m + 1, cp', rfl, ⟨hG, Nat.le_refl _, hfar w A A' hN⟩, hb⟩
    | false =>
      rw [hd] at hn
      refine ⟨(nxt n c g).1, (nxt n c g).2.1, (.func (Fn.method "Next") #[.iface 66 (.agg #[.iface 72 (.agg #[.int .i64 0, .int .i64 0, .int .i64 n, .bool ((nxt n c g).1).b, .bool ((nxt n c g).1).s, .bool ((nxt n c g).1).d, .int .i64 ((nxt n c g).1).t, .int .i64 ((nxt n c g).1).a]), .int .i64 0, .bool true])] #[]), (.func (Fn.method "Next") #[.iface 72 (.agg #[.int .i64 0, .int .i64 0, .int .i64 n, .bool ((nxt n c g).1).b, .bool ((nxt n c g).1).s, .bool ((nxt n c g).1).d, .int .i64 ((nxt n c g).1).t, .int .i64 ((nxt n c g).1).a])] #[]), Sto.nx _ _, Sto.nx _ _, t0, t1, fun h => (by rw [← hn] at h; cases h), fun _ => ⟨rfl, rfl⟩, fun A m cp w hm hg => ?_, fun A m cp w hm hg => ?_⟩
      · refine (give_go 66 44 (.agg #[.iface 72 (.agg #[.int .i64 0, .int .i64 0, .int .i64 n, .bool (c).b, .bool (c).s, .bool (c).d, .int .i64 (c).t, .int .i64 (c).a]), .int .i64 0, .bool true]) (.agg #[.iface 72 (.agg #[.int .i64 0, .int .i64 0, .int .i64 n, .bool ((nxt n c g).1).b, .bool ((nxt n c g).1).s, .bool ((nxt n c g).1).d, .int .i64 ((nxt n c g).1).t, .int .i64 ((nxt n c g).1).a]), .int .i64 0, .bool true]) _ a (nxt n c g).2.1 g A m cp w codeT_wr wr_meth wr_enter hm hg (fun W _ => ?_)).mono ?_
        · have := wn_inner n c true g W h0 (by omega)
          simp only [if_pos, hd] at this
          exact this
        · rintro e w' ⟨A', cp', rfl, hG, hN, hb⟩
          exact ⟨A', m + 1, cp', rfl, ⟨hG, Nat.le_refl _, hfar w A A' hN⟩, hb⟩
      · refine (give_go 72 45 (.agg #[.int .i64 0, .int .i64 0, .int .i64 n, .bool (c).b, .bool (c).s, .bool (c).d, .int .i64 (c).t, .int .i64 (c).a]) (.agg #[.int .i64 0, .int .i64 0, .int .i64 n, .bool ((nxt n c g).1).b, .bool ((nxt n c g).1).s, .bool ((nxt n c g).1).d, .int .i64 ((nxt n c g).1).t, .int .i64 ((nxt n c g).1).a]) _ a (nxt n c g).2.1 g A m cp w codeT_code code_meth code_enter hm hg (fun W _ => ?_)).mono ?_
        · have := code_next n c g W h0 (by omega)
          rw [hd] at this
          exact this
        · rintro e w' ⟨A', cp', rfl, hG, hN, hb⟩
          exact ⟨A', m + 1, cp', rfl, ⟨hG, Nat.le_refl _, hfar w A A' hN⟩, hb⟩

/-- What region 28 holds: the two boxes, one element of l. -/
def S28 (B1 B2 bl o : Nat) (c1 c2 : List Value) (g : GS) (w : World) : Prop := BoxC B1 c1 w ∧ BoxC B2 c2 w ∧ bl < w.heap.size ∧ ∀ j u, (gotc g)[j]? = some u → w.cell? ⟨bl, o + j, none⟩ = some u
theorem S28.below {B1 B2 bl o : Nat} {c1 c2 : List Value} {g : GS} {w w' : World} (h : S28 B1 B2 bl o c1 c2 g w) (hb : Below w.heap.size w w') : S28 B1 B2 bl o c1 c2 g w' :=
  ⟨h.1.below hb, h.2.1.below hb, Nat.lt_of_lt_of_le h.2.2.1 hb.size, fun j u hu => (hb.cell (p := ⟨bl, o + j, none⟩) h.2.2.1).trans (h.2.2.2 j u hu)⟩
theorem S28.drew {B1 B2 bl o : Nat} {c1 c2 : List Value} {g : GS} {w : World} (h : S28 B1 B2 bl o c1 c2 g w) : S28 B1 B2 bl o c1 c2 g w.drew := h
end Go.Proofs.Ytfldjbojonbmpaa
