/- Package desc: Read whole; the logical word of a location, told. -/
import Derived.Test.YtbomhhkknopdpaaGreatDoorD4
import Derived.Test.YtbomhhkknopdpaaGreatDoorD5
namespace Go.Proofs.YtbomhhkknopdpaaGreatDoor
set_option linter.unusedSimpArgs false
set_option linter.unusedVariables false
open Go.RowKit
theorem read_any (T C B who : Int) (b n cap : Nat) (ws : List W3) (w : World) (hv : Valid T C B) (hs : Sizes w) (h0 : -1000 ≤ who) (h1 : who ≤ 1000) (hM : Mem b ws w) (hl : ws.length = n) (hnm : n ≤ 1000000) (hcap : n ≤ cap) (hok : ∀ x ∈ ws, x.ok) (hn : fromL T C B 7 ≤ n) :
    Calls Tryz.prog 53 #[(.agg #[.int .i64 T, .int .i64 C, .int .i64 B]), .slice (some ⟨b, 0, none⟩) n cap, .int .i64 who] w fun e w' => ReadPost who (readL T C B ws who) w e w' := by
  by_cases hN : placeN T C B who = 0
  · unfold readL
    rw [if_pos hN]
    refine (read_p T C B who _ b n cap ws w hv hs h0 h1 hM hl hn rfl hN).mono ?_
    rintro e w' ⟨rfl, hb⟩
    exact ⟨3, by decide, rfl, hb⟩
  · obtain ⟨p, hP, hpn, hN2, hN1⟩ := place_in T C B who hv hN
    have hP' : (placeL T C B who).toNat = p := by rw [hP]; exact Int.toNat_natCast p
    unfold readL
    rw [if_neg hN, hP']
    have hx := get_getD (ws := ws) (k := p) (by omega)
    have hy := get_getD (ws := ws) (k := p + 1) (by omega)
    cases hf : headOK (ws.getD p z3) (ws.getD (p + 1) z3) (placeN T C B who) with
    | true =>
      rw [if_pos rfl]
      exact read_good T C B who _ b n cap p _ _ ws w hv hs h0 h1 hM hl hnm hcap hok hn hP rfl (by simpa using hN) hN1 hN2 (by omega) hx hy hf
    | false =>
      rw [if_neg (by simp)]
      exact read_bad T C B who _ b n cap p _ _ ws w hv hs h0 h1 hM hl hnm hok hn hP rfl (by simpa using hN) hN1 hN2 (by omega) hx hy hf
theorem placeN_le (T C B who : Int) : placeN T C B who ≤ 32 := by
  unfold placeN
  split
  · decide
  · split <;> decide
theorem readL_len {T C B who sq st : Int} {ws : List W3} {es : List En} (h : readL T C B ws who = some (sq, st, es)) : es.length ≤ 32 := by
  unfold readL at h
  split at h
  · cases h
  · split at h
    · rename_i hh
      unfold headOK at hh
      simp only [Bool.and_eq_true, decide_eq_true_eq] at hh
      have h32 := placeN_le T C B who
      cases he : entsL ws (placeL T C B who).toNat (ws.getD ((placeL T C B who).toNat + 1) z3).v.toNat with
      | none => rw [he] at h; cases h
      | some es' =>
        rw [he] at h
        simp only [] at h
        split at h
        · injection h with h
          injection h with _ h
          injection h with _ h
          subst h
          have := entsL_len he
          omega
        · cases h
    · cases h
/-- The word of a location that is held by nobody, or whose holder has not written it. -/
def plainW (x : W3) : W3 := ⟨x.v, x.r, 0⟩
def up32 (n : Int) : Int := (n + 1) % 4294967296
/-- The logical word of location p. -/
def logicalL (T C B : Int) (ws : List W3) (p : Nat) : W3 :=
  let x := ws.getD p z3
  if (whoL x.f).1 = 0 then plainW x
  else match readL T C B ws (whoL x.f).1 with
    | none => plainW x
    | some (seq, st, es) => if seq = (whoL x.f).2 ∧ st = 1 then
        match es.find? (fun y => y.a == (p : Int) && y.w) with
        | none => plainW x
        | some y => ⟨y.n, up32 x.r, 0⟩
      else plainW x
theorem may_in {T C B a : Int} (hv : Valid T C B) (h : mayL T C B a = true) : 0 ≤ a ∧ a < fromL T C B 4 ∧ a < fromL T C B 7 := by
  have h2 := from_le T C B hv.1 2
  have hf := hv.1
  obtain ⟨f1, f2, f3, f4, f5, f6⟩ := hf
  have e4 : fromL T C B 4 = fromL T C B 3 + (C + 7) / 8 * 8 := rfl
  have e7 := (fromL_end T C B).1
  have hx : (if 0 < B then (8 : Int) else 0) ≥ 0 := by split <;> omega
  unfold mayL at h
  simp only [Bool.or_eq_true, Bool.and_eq_true, decide_eq_true_eq] at h
  have e3 : fromL T C B 3 = fromL T C B 2 + 8 * T := rfl
  omega
end Go.Proofs.YtbomhhkknopdpaaGreatDoor
