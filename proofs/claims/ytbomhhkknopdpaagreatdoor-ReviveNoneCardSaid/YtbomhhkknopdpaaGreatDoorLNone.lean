/- ReviveNone: an invalid layout and too few words are rejected; the initial words satisfy all invariants. -/
import Derived.Test.YtbomhhkknopdpaaGreatDoorCards
import Derived.Test.YtbomhhkknopdpaaGreatDoorTie
import Derived.Test.YtbomhhkknopdpaaGreatDoorFr2
import Derived.Test.YtbomhhkknopdpaaGreatDoorM6
import Derived.Test.YtbomhhkknopdpaaGreatDoorNw
import Derived.Test.YtbomhhkknopdpaaGreatDoorNp
import Derived.Test.YtbomhhkknopdpaaGreatDoorOp
namespace Go.Proofs.YtbomhhkknopdpaaGreatDoor.lawNone
set_option linter.unusedSimpArgs false
set_option linter.unusedVariables false
open Go.ChangeShapes Go.WideShapes Go.ChangeAt Go.RowKit
theorem own : ownKnob Tryz.prog.godebug = none := by kernel_rfl
theorem fit_valid {T C B : Int} (hf : Fit T C B) (hT : ¬ (3 < T ∧ T ≤ 8)) (hC : ¬ 40 < C) (hB : ¬ (8 < B ∧ B ≤ 64)) : Valid T C B ∧ B ≤ 8 ∧ 40 ≤ fromL T C B 7 := by
  obtain ⟨e1, e2, e3, e4, e5, e6, e7⟩ := froms hf
  have e4' : fromL T C B 4 = fromL T C B 3 + (C + 7) / 8 * 8 := rfl
  obtain ⟨f1, f2, f3, f4, f5, f6⟩ := hf
  split at e6
  · exact ⟨⟨⟨f1, f2, f3, f4, f5, f6⟩, by omega⟩, by omega, by omega⟩
  · exact ⟨⟨⟨f1, f2, f3, f4, f5, f6⟩, by omega⟩, by omega, by omega⟩
set_option maxHeartbeats 8000000 in
set_option maxRecDepth 100000 in
theorem law_ok (T C B few : Int) (w : World) (hs : Sizes w) (h0 : 0 ≤ few) (h1 : few < 256) : Calls Tryz.prog 4 #[(.agg #[.int .i64 T, .int .i64 C, .int .i64 B]), .int .u8 few] w fun e w' => e = .returned (.bool true) ∧ Below w.heap.size w w' := by
  have hp := hs.pos
  obtain ⟨bg, hbg⟩ : ∃ bg : Bool, bg = decide ((3 < T ∧ T ≤ 8) ∨ 40 < C ∨ (8 < B ∧ B ≤ 64)) := ⟨_, rfl⟩
  have Hbg := hide hbg
  clear hbg
  go_enter Tryz.func4, Tryz.ntmps4
  go_upto_region 1 with fail
  go_cut [33] (fun s33 wx => s33 = .bool bg ∧ wx = w.alloc (.cells #[.int .i64 T, .int .i64 C, .int .i64 B] 31))
  case first =>
    by_cases q1 : 3 < T
    all_goals by_cases q2 : T ≤ 8
    all_goals by_cases q3 : 40 < C
    all_goals by_cases q4 : 8 < B
    all_goals by_cases q5 : B ≤ 64
    all_goals first | (exfalso; omega) | skip
    all_goals have H2 := hide q1
    all_goals have H3 := hide q2
    all_goals have H4 := hide q3
    all_goals have H5 := hide q4
    all_goals have H6 := hide q5
    all_goals go_wp2_with fail
    all_goals go_meet
    all_goals rw [Hbg.out]
    all_goals simp [H2.out, H3.out, H4.out, H5.out, H6.out]
  case rest =>
    obtain ⟨rfl, rfl⟩ := hcut
    cases bg with
    | true =>
      go_wp2_with (first | (go_at_call 7; refine (awake_ok _ (hs.below (by repeat' (first | with_reducible exact Below.refl _ _ | with_reducible assumption | with_reducible refine Below.alloc ?_ ?_ _ | with_reducible refine Below.setCell ?_ ?_ _ | with_reducible refine Below.drew ?_ | with_reducible refine below_drewN ?_ _ | with_reducible refine Below.trans ?_ (Below.mono (by with_reducible assumption) ?_) | omega | (simp <;> omega))))).mono ?_; rintro e w9 ⟨rfl, hb9⟩; obtain ⟨hcc9, hff9⟩ := bcell hb9; have hs9 := hb9.size; (try simp at hs9)))
      go_ret
      exact ⟨rfl, (by repeat' (first | with_reducible exact Below.refl _ _ | with_reducible assumption | with_reducible refine Below.alloc ?_ ?_ _ | with_reducible refine Below.setCell ?_ ?_ _ | with_reducible refine Below.drew ?_ | with_reducible refine below_drewN ?_ _ | with_reducible refine Below.trans ?_ (Below.mono (by with_reducible assumption) ?_) | omega | (simp <;> omega)))⟩
    | false =>
      have hno := of_decide_eq_false Hbg.out.symm
      have Hno := hide hno
      clear hno
      obtain ⟨w1, hw1⟩ : ∃ w1 : World, w1 = w.alloc (.cells #[.int .i64 T, .int .i64 C, .int .i64 B] 31) := ⟨_, rfl⟩
      have e0 : w1.cell? ⟨w.heap.size, 0, none⟩ = some (.int .i64 T) := by rw [hw1]; go_simp
      have e1 : w1.cell? ⟨w.heap.size, 1, none⟩ = some (.int .i64 C) := by rw [hw1]; go_simp
      have e2 : w1.cell? ⟨w.heap.size, 2, none⟩ = some (.int .i64 B) := by rw [hw1]; go_simp
      have hB1 : Below w.heap.size w w1 := by rw [hw1]; exact (by repeat' (first | with_reducible exact Below.refl _ _ | with_reducible assumption | with_reducible refine Below.alloc ?_ ?_ _ | with_reducible refine Below.setCell ?_ ?_ _ | with_reducible refine Below.drew ?_ | with_reducible refine below_drewN ?_ _ | with_reducible refine Below.trans ?_ (Below.mono (by with_reducible assumption) ?_) | omega | (simp <;> omega)))
      have hz1 : w.heap.size < w1.heap.size := by rw [hw1]; simp
      rw [← hw1]
      clear hw1
      by_cases hf : Fit T C B
      · obtain ⟨hv, hB8, h40⟩ := fit_valid hf (fun h => Hno.out (.inl h)) (fun h => Hno.out (.inr (.inl h))) (fun h => Hno.out (.inr (.inr h)))
        obtain ⟨n, hn⟩ : ∃ n : Nat, fromL T C B 7 = (n : Int) := ⟨(fromL T C B 7).toNat, by omega⟩
        have hn40 : 40 ≤ n := by omega
        have hn4 : n ≤ 4096 := by have := hv.2; omega
        obtain ⟨M, hM⟩ : ∃ M : Nat, T = (M : Int) := ⟨T.toNat, by have := hf.1; omega⟩
        obtain ⟨ws, hws⟩ : ∃ ws, ws = firstL T C B := ⟨_, rfl⟩
        have hl : ws.length = n := by rw [hws, firstL_len, hn]; rfl
        have hok : ∀ x ∈ ws, x.ok := by rw [hws]; exact firstL_ok T C B
        have hck0 : checkL T C B ws = [] := by rw [hws]; exact first_check hf hB8
        have hfi := fun W hs' => first_ok T C B n W hv hs' hn (by omega)
        simp only [← hws] at hfi
        have hck := fun (g : Nat) W hs' hM' => vcheck_ok T C B g n n ws W hv hs' hM' hl (by omega) (Nat.le_refl _) hok hn hB8 (by omega)
        rw [hck0] at hck
        have hsq := fun (g : Nat) W hs' hM' => seqs_ok T C B g n n ws W hv hs' hM' hl (by omega) hok hn
        have hsl : (seqsTo T C B ws T.toNat).length = M := by rw [seqsTo_len, hM]; rfl
        obtain ⟨k, hk⟩ : ∃ k : Nat, few % 30 = (k : Int) := ⟨(few % 30).toNat, by omega⟩
        have hk30 : k < 30 := by omega
        obtain ⟨n', hn'⟩ : ∃ n' : Nat, n = n' + 1 + k := ⟨n - 1 - k, by omega⟩
        have hW : Wrong T C B n' := .inr ⟨hv, by omega⟩
        have HW := hide hW
        have Hfi := hide hfi
        have Hck := hide hck
        have Hsq := hide hsq
        have Hsl := hide hsl
        have Hv := hide hv
        have HMT := hide hM
        have hfew : IntKind.u8.wrap (few % 30) = (k : Int) := by rw [hk]; unfold IntKind.wrap; simp [IntKind.signed, IntKind.bits, IntKind.min, IntKind.max]; omega
        have hfew2 : IntKind.u8.wrap (few.tmod 30) = (k : Int) := by rw [Int.tmod_eq_emod_of_nonneg h0]; exact hfew
        have hconv : IntKind.i64.wrap (k : Int) = (k : Int) := IntWalk.i64_in _ (by omega)
        have hsub1 : IntKind.i64.wrap ((n : Int) - 1) = (n : Int) - 1 := IntWalk.i64_in _ (by omega)
        have hsub2 : IntKind.i64.wrap ((n : Int) - 1 - (k : Int)) = (n' : Int) := by rw [show (n : Int) - 1 - (k : Int) = (n' : Int) by omega]; exact IntWalk.i64_in _ (by omega)
        have hidx : wrap64 ((n : Int) - 1 - few % 30) = (n' : Int) := by rw [hk]; unfold wrap64; omega
        have hnz : ¬ (n = 0) := by omega
        have hlt40 : ¬ ((n : Int) < 40) := by omega
        have hd40 : decide ((n : Int) < 40) = false := decide_eq_false hlt40
        have hn0 : (0 : Int) ≤ (n' : Int) := by omega
        have hnn : (n' : Int) ≤ (n : Int) := by omega
        clear hfi hck hsq hsl hW hws hck0 hok hl hn hk hM hv hf h40 hB8 hn' hn40 hn4 hk30
        go_wp2_with (first
          | (go_at_call 11; refine (Hfi.out _ (hs.below (by repeat' (first | with_reducible exact Below.refl _ _ | with_reducible assumption | with_reducible refine Below.alloc ?_ ?_ _ | with_reducible refine Below.setCell ?_ ?_ _ | with_reducible refine Below.drew ?_ | with_reducible refine below_drewN ?_ _ | with_reducible refine Below.trans ?_ (Below.mono (by with_reducible assumption) ?_) | omega | (simp <;> omega))))).mono ?_; rintro e w2 ⟨g, rfl, hMg, hg, hb2⟩; obtain ⟨hcc2, hff2⟩ := bcell hb2; have hs2 := hb2.size; (try simp at hs2); have hz2 : w.heap.size < w2.heap.size := (by omega); have HMg := hide hMg; clear hMg)
          | (go_at_call 12; refine (check_ok T C B _ Hv.out (hs.below (by repeat' (first | with_reducible exact Below.refl _ _ | with_reducible assumption | with_reducible refine Below.alloc ?_ ?_ _ | with_reducible refine Below.setCell ?_ ?_ _ | with_reducible refine Below.drew ?_ | with_reducible refine below_drewN ?_ _ | with_reducible refine Below.trans ?_ (Below.mono (by with_reducible assumption) ?_) | omega | (simp <;> omega))))).mono ?_; rintro e w3 ⟨rfl, hb3⟩; obtain ⟨hcc3, hff3⟩ := bcell hb3; have hs3 := hb3.size; (try simp at hs3); have hz3 : w.heap.size < w3.heap.size := (by omega)))
        have f0 : w3.cell? ⟨w.heap.size, 0, none⟩ = some (.int .i64 T) := by go_simp
        have f1 : w3.cell? ⟨w.heap.size, 1, none⟩ = some (.int .i64 C) := by go_simp
        have f2 : w3.cell? ⟨w.heap.size, 2, none⟩ = some (.int .i64 B) := by go_simp
        have hB3 : Below w.heap.size w w3 := (by repeat' (first | with_reducible exact Below.refl _ _ | with_reducible assumption | with_reducible refine Below.alloc ?_ ?_ _ | with_reducible refine Below.setCell ?_ ?_ _ | with_reducible refine Below.drew ?_ | with_reducible refine below_drewN ?_ _ | with_reducible refine Below.trans ?_ (Below.mono (by with_reducible assumption) ?_) | omega | (simp <;> omega)))
        have HM3 := hide (HMg.out.grow hb3)
        have HS3 := hide (hs.below hB3)
        clear hcc2 hff2 hcc3 hff3 hb2 hb3 HMg e0 e1 e2 hB1
        go_cut [58] (fun s58 wx => s58 = .bool false ∧ Below w3.heap.size w3 wx)
        case first =>
          refine wp_region_held_drew (S := (fun w' => w'.cell? ⟨w.heap.size, 0, none⟩ = some (.int .i64 T) ∧ w'.cell? ⟨w.heap.size, 1, none⟩ = some (.int .i64 C) ∧ w'.cell? ⟨w.heap.size, 2, none⟩ = some (.int .i64 B))) (by kernel_rfl) (by first | exact ⟨by go_simp, by go_simp, by go_simp⟩) (fun hHeld => ?_)
          refine wpAnyH_take (i := 0) (v := ?_) (oi := { dst := some 40, op := Op.move (Operand.tmp 5), type := 25, pos := "law.go:252", after := #[], guard := none }) (by rfl) (by kernel_rfl) (by kernel_rfl) (by kernel_rfl) (fun _ _ _ h => h) (Or.inl ⟨by rfl, ?_⟩) (by assumption) ?_; rotate_left; focus (intro w hSw; (try dsimp only at hSw); go_simp; (try with_reducible rfl); done)
          (try simp only [Act.put, List.setIfInBounds_toArray, List.set_cons_zero, List.set_cons_succ])
          refine wpAnyH_take (i := 1) (v := ?_) (oi := { dst := some 41, op := Op.call { callee := Callee.builtin Builtin.len, args := #[Operand.tmp 40], argTypes := #[25] }, type := 3, pos := "law.go:252", after := #[{ on := 0, ground := Ground.data }], guard := none }) (by rfl) (by kernel_rfl) (by kernel_rfl) (by kernel_rfl) (fun _ _ _ h => h) (Or.inl ⟨by rfl, ?_⟩) (by assumption) ?_; rotate_left; focus (intro w hSw; (try dsimp only at hSw); go_simp; (try with_reducible rfl); done)
          (try simp only [Act.put, List.setIfInBounds_toArray, List.set_cons_zero, List.set_cons_succ])
          refine wpAnyH_take (i := 2) (v := ?_) (oi := { dst := some 42, op := Op.binOp BinOp.lss 3 (Operand.tmp 41) (Operand.const (Value.int IntKind.i64 40)) 3, type := 4, pos := "law.go:252", after := #[{ on := 1, ground := Ground.data }], guard := none }) (by rfl) (by kernel_rfl) (by kernel_rfl) (by kernel_rfl) (fun _ _ _ h => h) (Or.inl ⟨by rfl, ?_⟩) (by assumption) ?_; rotate_left; focus (intro w hSw; (try dsimp only at hSw); go_simp; (try with_reducible rfl); done)
          (try simp only [Act.put, List.setIfInBounds_toArray, List.set_cons_zero, List.set_cons_succ])
          refine wpAnyH_take (i := 3) (v := ?_) (oi := { dst := some 43, op := Op.move (Operand.tmp 42), type := 4, pos := "law.go:252", after := #[{ on := 2, ground := Ground.data }], guard := none }) (by rfl) (by kernel_rfl) (by kernel_rfl) (by kernel_rfl) (fun _ _ _ h => h) (Or.inl ⟨by rfl, ?_⟩) (by assumption) ?_; rotate_left; focus (intro w hSw; (try dsimp only at hSw); go_simp; (try with_reducible rfl); done)
          (try simp only [Act.put, List.setIfInBounds_toArray, List.set_cons_zero, List.set_cons_succ])
          first | (refine wpAnyH_take (i := 4) (v := ?_) (oi := { dst := some 44, op := Op.load 31 (Operand.tmp 2), type := 31, pos := "law.go:252", after := #[{ on := 3, ground := Ground.guard }], guard := some (3, false) }) (by rfl) (by kernel_rfl) (by kernel_rfl) (by kernel_rfl) (fun _ _ _ h => h) (Or.inl ⟨by rfl, ?_⟩) (by assumption) ?_; rotate_left; focus (intro w hSw; (try dsimp only at hSw); go_simp; (try with_reducible rfl); done)) | (refine wpAnyH_take (i := 4) (v := undef) (oi := { dst := some 44, op := Op.load 31 (Operand.tmp 2), type := 31, pos := "law.go:252", after := #[{ on := 3, ground := Ground.guard }], guard := some (3, false) }) (by rfl) (by kernel_rfl) (by kernel_rfl) (by kernel_rfl) (fun _ _ _ h => h) (Or.inr ⟨by rfl, rfl⟩) (by assumption) ?_) | fail "region 5 op 4"
          (try simp only [Act.put, List.setIfInBounds_toArray, List.set_cons_zero, List.set_cons_succ])
          first | (refine wpAnyH_take (i := 5) (v := ?_) (oi := { dst := some 45, op := Op.move (Operand.tmp 5), type := 25, pos := "law.go:252", after := #[{ on := 3, ground := Ground.guard }], guard := some (3, false) }) (by rfl) (by kernel_rfl) (by kernel_rfl) (by kernel_rfl) (fun _ _ _ h => h) (Or.inl ⟨by rfl, ?_⟩) (by assumption) ?_; rotate_left; focus (intro w hSw; (try dsimp only at hSw); go_simp; (try with_reducible rfl); done)) | (refine wpAnyH_take (i := 5) (v := undef) (oi := { dst := some 45, op := Op.move (Operand.tmp 5), type := 25, pos := "law.go:252", after := #[{ on := 3, ground := Ground.guard }], guard := some (3, false) }) (by rfl) (by kernel_rfl) (by kernel_rfl) (by kernel_rfl) (fun _ _ _ h => h) (Or.inr ⟨by rfl, rfl⟩) (by assumption) ?_) | fail "region 5 op 5"
          (try simp only [Act.put, List.setIfInBounds_toArray, List.set_cons_zero, List.set_cons_succ])
          refine wpAnyH_ready (rs := [6]) (by kernel_rfl) (by simp) ?_
          refine AllReadyH.cons (o := { dst := some 46, op := Op.call { callee := Callee.value (Operand.func 13), args := #[Operand.tmp 44, Operand.tmp 45], argTypes := #[31, 25] }, type := 44, pos := "law.go:252", after := #[{ on := 4, ground := Ground.data }, { on := 5, ground := Ground.data }, { on := 3, ground := Ground.chain }, { on := 3, ground := Ground.guard }], guard := some (3, false) }) (by rfl) (fun K hK => ?_) (AllReadyH.nil)
          go_simp
          (go_at_call 13; refine (Hck.out g _ (HS3.out.below (by repeat' (first | with_reducible exact Below.refl _ _ | with_reducible assumption | with_reducible refine Below.alloc ?_ ?_ _ | with_reducible refine Below.setCell ?_ ?_ _ | with_reducible refine Below.drew ?_ | with_reducible refine below_drewN ?_ _ | with_reducible refine Below.trans ?_ (Below.mono (by with_reducible assumption) ?_) | omega | (simp <;> omega)))) (HM3.out.grow (by repeat' (first | with_reducible exact Below.refl _ _ | with_reducible assumption | with_reducible refine Below.alloc ?_ ?_ _ | with_reducible refine Below.setCell ?_ ?_ _ | with_reducible refine Below.drew ?_ | with_reducible refine below_drewN ?_ _ | with_reducible refine Below.trans ?_ (Below.mono (by with_reducible assumption) ?_) | omega | (simp <;> omega))))).mono ?_; rintro e w4 ⟨Q, cq, rfl, -, -, hb4'⟩; have hb4 : Below _ _ w4 := (by first | with_reducible exact noDrew hb4' | exact hb4'); clear hb4'; obtain ⟨hcc4, hff4⟩ := bcell hb4; have hs4 := hb4.size; (try simp at hs4); have hz4 : w.heap.size < w4.heap.size := (by omega))
          go_wp2_with fail
          refine hK.out _ _ (by first | exact ⟨by go_simp, by go_simp, by go_simp⟩) (fun hHeld => ?_)
          clear hK K
          (try simp only [Act.put, List.setIfInBounds_toArray, List.set_cons_zero, List.set_cons_succ])
          first | (refine wpAnyH_take (i := 7) (v := ?_) (oi := { dst := some 47, op := Op.call { callee := Callee.builtin Builtin.len, args := #[Operand.tmp 46], argTypes := #[44] }, type := 3, pos := "law.go:252", after := #[{ on := 6, ground := Ground.data }, { on := 3, ground := Ground.guard }], guard := some (3, false) }) (by rfl) (by kernel_rfl) (by kernel_rfl) (by kernel_rfl) (fun _ _ _ h => h) (Or.inl ⟨by rfl, ?_⟩) (by assumption) ?_; rotate_left; focus (intro w hSw; (try dsimp only at hSw); go_simp; (try with_reducible rfl); done)) | (refine wpAnyH_take (i := 7) (v := undef) (oi := { dst := some 47, op := Op.call { callee := Callee.builtin Builtin.len, args := #[Operand.tmp 46], argTypes := #[44] }, type := 3, pos := "law.go:252", after := #[{ on := 6, ground := Ground.data }, { on := 3, ground := Ground.guard }], guard := some (3, false) }) (by rfl) (by kernel_rfl) (by kernel_rfl) (by kernel_rfl) (fun _ _ _ h => h) (Or.inr ⟨by rfl, rfl⟩) (by assumption) ?_) | fail "region 5 op 7"
          (try simp only [Act.put, List.setIfInBounds_toArray, List.set_cons_zero, List.set_cons_succ])
          first | (refine wpAnyH_take (i := 8) (v := ?_) (oi := { dst := some 48, op := Op.binOp BinOp.neq 3 (Operand.tmp 47) (Operand.const (Value.int IntKind.i64 0)) 3, type := 4, pos := "law.go:252", after := #[{ on := 7, ground := Ground.data }, { on := 3, ground := Ground.guard }], guard := some (3, false) }) (by rfl) (by kernel_rfl) (by kernel_rfl) (by kernel_rfl) (fun _ _ _ h => h) (Or.inl ⟨by rfl, ?_⟩) (by assumption) ?_; rotate_left; focus (intro w hSw; (try dsimp only at hSw); go_simp; (try with_reducible rfl); done)) | (refine wpAnyH_take (i := 8) (v := undef) (oi := { dst := some 48, op := Op.binOp BinOp.neq 3 (Operand.tmp 47) (Operand.const (Value.int IntKind.i64 0)) 3, type := 4, pos := "law.go:252", after := #[{ on := 7, ground := Ground.data }, { on := 3, ground := Ground.guard }], guard := some (3, false) }) (by rfl) (by kernel_rfl) (by kernel_rfl) (by kernel_rfl) (fun _ _ _ h => h) (Or.inr ⟨by rfl, rfl⟩) (by assumption) ?_) | fail "region 5 op 8"
          (try simp only [Act.put, List.setIfInBounds_toArray, List.set_cons_zero, List.set_cons_succ])
          refine wpAnyH_take (i := 9) (v := ?_) (oi := { dst := some 49, op := Op.pick (Operand.tmp 43) (Operand.const (Value.bool true)) (Operand.tmp 48), type := 4, pos := "law.go:252", after := #[{ on := 3, ground := Ground.data }, { on := 8, ground := Ground.data }], guard := none }) (by rfl) (by kernel_rfl) (by kernel_rfl) (by kernel_rfl) (fun _ _ _ h => h) (Or.inl ⟨by rfl, ?_⟩) (by assumption) ?_; rotate_left; focus (intro w hSw; (try dsimp only at hSw); go_simp; (try with_reducible rfl); done)
          (try simp only [Act.put, List.setIfInBounds_toArray, List.set_cons_zero, List.set_cons_succ])
          refine wpAnyH_take (i := 10) (v := ?_) (oi := { dst := some 50, op := Op.move (Operand.tmp 49), type := 4, pos := "law.go:252", after := #[{ on := 9, ground := Ground.data }, { on := 6, ground := Ground.chain }], guard := none }) (by rfl) (by kernel_rfl) (by kernel_rfl) (by kernel_rfl) (fun _ _ _ h => h) (Or.inl ⟨by rfl, ?_⟩) (by assumption) ?_; rotate_left; focus (intro w hSw; (try dsimp only at hSw); go_simp; (try with_reducible rfl); done)
          (try simp only [Act.put, List.setIfInBounds_toArray, List.set_cons_zero, List.set_cons_succ])
          first | (refine wpAnyH_take (i := 11) (v := ?_) (oi := { dst := some 51, op := Op.load 31 (Operand.tmp 2), type := 31, pos := "law.go:252", after := #[{ on := 10, ground := Ground.guard }], guard := some (10, false) }) (by rfl) (by kernel_rfl) (by kernel_rfl) (by kernel_rfl) (fun _ _ _ h => h) (Or.inl ⟨by rfl, ?_⟩) (by assumption) ?_; rotate_left; focus (intro w hSw; (try dsimp only at hSw); go_simp; (try with_reducible rfl); done)) | (refine wpAnyH_take (i := 11) (v := undef) (oi := { dst := some 51, op := Op.load 31 (Operand.tmp 2), type := 31, pos := "law.go:252", after := #[{ on := 10, ground := Ground.guard }], guard := some (10, false) }) (by rfl) (by kernel_rfl) (by kernel_rfl) (by kernel_rfl) (fun _ _ _ h => h) (Or.inr ⟨by rfl, rfl⟩) (by assumption) ?_) | fail "region 5 op 11"
          (try simp only [Act.put, List.setIfInBounds_toArray, List.set_cons_zero, List.set_cons_succ])
          first | (refine wpAnyH_take (i := 12) (v := ?_) (oi := { dst := some 52, op := Op.move (Operand.tmp 5), type := 25, pos := "law.go:252", after := #[{ on := 10, ground := Ground.guard }], guard := some (10, false) }) (by rfl) (by kernel_rfl) (by kernel_rfl) (by kernel_rfl) (fun _ _ _ h => h) (Or.inl ⟨by rfl, ?_⟩) (by assumption) ?_; rotate_left; focus (intro w hSw; (try dsimp only at hSw); go_simp; (try with_reducible rfl); done)) | (refine wpAnyH_take (i := 12) (v := undef) (oi := { dst := some 52, op := Op.move (Operand.tmp 5), type := 25, pos := "law.go:252", after := #[{ on := 10, ground := Ground.guard }], guard := some (10, false) }) (by rfl) (by kernel_rfl) (by kernel_rfl) (by kernel_rfl) (fun _ _ _ h => h) (Or.inr ⟨by rfl, rfl⟩) (by assumption) ?_) | fail "region 5 op 12"
          (try simp only [Act.put, List.setIfInBounds_toArray, List.set_cons_zero, List.set_cons_succ])
          first | (refine wpAnyH_take (i := 15) (v := ?_) (oi := { dst := some 55, op := Op.fieldAddr 31 (Operand.tmp 2) 0, type := 0, pos := "law.go:252", after := #[{ on := 10, ground := Ground.guard }], guard := some (10, false) }) (by rfl) (by kernel_rfl) (by kernel_rfl) (by kernel_rfl) (fun _ _ _ h => h) (Or.inl ⟨by rfl, ?_⟩) (by assumption) ?_; rotate_left; focus (intro w hSw; (try dsimp only at hSw); go_simp; (try with_reducible rfl); done)) | (refine wpAnyH_take (i := 15) (v := undef) (oi := { dst := some 55, op := Op.fieldAddr 31 (Operand.tmp 2) 0, type := 0, pos := "law.go:252", after := #[{ on := 10, ground := Ground.guard }], guard := some (10, false) }) (by rfl) (by kernel_rfl) (by kernel_rfl) (by kernel_rfl) (fun _ _ _ h => h) (Or.inr ⟨by rfl, rfl⟩) (by assumption) ?_) | fail "region 5 op 15"
          (try simp only [Act.put, List.setIfInBounds_toArray, List.set_cons_zero, List.set_cons_succ])
          first | (refine wpAnyH_take (i := 16) (v := ?_) (oi := { dst := some 56, op := Op.load 3 (Operand.tmp 55), type := 3, pos := "law.go:252", after := #[{ on := 15, ground := Ground.data }, { on := 10, ground := Ground.guard }], guard := some (10, false) }) (by rfl) (by kernel_rfl) (by kernel_rfl) (by kernel_rfl) (fun _ _ _ h => h) (Or.inl ⟨by rfl, ?_⟩) (by assumption) ?_; rotate_left; focus (intro w hSw; (try dsimp only at hSw); go_simp; (try with_reducible rfl); done)) | (refine wpAnyH_take (i := 16) (v := undef) (oi := { dst := some 56, op := Op.load 3 (Operand.tmp 55), type := 3, pos := "law.go:252", after := #[{ on := 15, ground := Ground.data }, { on := 10, ground := Ground.guard }], guard := some (10, false) }) (by rfl) (by kernel_rfl) (by kernel_rfl) (by kernel_rfl) (fun _ _ _ h => h) (Or.inr ⟨by rfl, rfl⟩) (by assumption) ?_) | fail "region 5 op 16"
          (try simp only [Act.put, List.setIfInBounds_toArray, List.set_cons_zero, List.set_cons_succ])
          refine wpAnyH_ready (rs := [13]) (by kernel_rfl) (by simp) ?_
          refine AllReadyH.cons (o := { dst := some 53, op := Op.call { callee := Callee.value (Operand.func 14), args := #[Operand.tmp 51, Operand.tmp 52], argTypes := #[31, 25] }, type := 44, pos := "law.go:252", after := #[{ on := 11, ground := Ground.data }, { on := 12, ground := Ground.data }, { on := 10, ground := Ground.chain }, { on := 10, ground := Ground.guard }], guard := some (10, false) }) (by rfl) (fun K hK => ?_) (AllReadyH.nil)
          go_simp
          (go_at_call 14; refine (Hsq.out g _ (HS3.out.below (by repeat' (first | with_reducible exact Below.refl _ _ | with_reducible assumption | with_reducible refine Below.alloc ?_ ?_ _ | with_reducible refine Below.setCell ?_ ?_ _ | with_reducible refine Below.drew ?_ | with_reducible refine below_drewN ?_ _ | with_reducible refine Below.trans ?_ (Below.mono (by with_reducible assumption) ?_) | omega | (simp <;> omega)))) (HM3.out.grow (by repeat' (first | with_reducible exact Below.refl _ _ | with_reducible assumption | with_reducible refine Below.alloc ?_ ?_ _ | with_reducible refine Below.setCell ?_ ?_ _ | with_reducible refine Below.drew ?_ | with_reducible refine below_drewN ?_ _ | with_reducible refine Below.trans ?_ (Below.mono (by with_reducible assumption) ?_) | omega | (simp <;> omega))))).mono ?_; rintro e w5 ⟨Q5, cq5, rfl, -, -, hb5'⟩; rw [Hsl.out]; have hb5 : Below _ _ w5 := (by first | with_reducible exact noDrew hb5' | exact hb5'); clear hb5'; obtain ⟨hcc5, hff5⟩ := bcell hb5; have hs5 := hb5.size; (try simp at hs5); have hz5 : w.heap.size < w5.heap.size := (by omega))
          go_wp2_with fail
          refine hK.out _ _ (by first | exact ⟨by go_simp, by go_simp, by go_simp⟩) (fun hHeld => ?_)
          clear hK K
          (try simp only [Act.put, List.setIfInBounds_toArray, List.set_cons_zero, List.set_cons_succ])
          first | (refine wpAnyH_take (i := 14) (v := ?_) (oi := { dst := some 54, op := Op.call { callee := Callee.builtin Builtin.len, args := #[Operand.tmp 53], argTypes := #[44] }, type := 3, pos := "law.go:252", after := #[{ on := 13, ground := Ground.data }, { on := 10, ground := Ground.guard }], guard := some (10, false) }) (by rfl) (by kernel_rfl) (by kernel_rfl) (by kernel_rfl) (fun _ _ _ h => h) (Or.inl ⟨by rfl, ?_⟩) (by assumption) ?_; rotate_left; focus (intro w hSw; (try dsimp only at hSw); go_simp; (try with_reducible rfl); done)) | (refine wpAnyH_take (i := 14) (v := undef) (oi := { dst := some 54, op := Op.call { callee := Callee.builtin Builtin.len, args := #[Operand.tmp 53], argTypes := #[44] }, type := 3, pos := "law.go:252", after := #[{ on := 13, ground := Ground.data }, { on := 10, ground := Ground.guard }], guard := some (10, false) }) (by rfl) (by kernel_rfl) (by kernel_rfl) (by kernel_rfl) (fun _ _ _ h => h) (Or.inr ⟨by rfl, rfl⟩) (by assumption) ?_) | fail "region 5 op 14"
          (try simp only [Act.put, List.setIfInBounds_toArray, List.set_cons_zero, List.set_cons_succ])
          first | (refine wpAnyH_take (i := 17) (v := ?_) (oi := { dst := some 57, op := Op.binOp BinOp.neq 3 (Operand.tmp 54) (Operand.tmp 56) 3, type := 4, pos := "law.go:252", after := #[{ on := 14, ground := Ground.data }, { on := 16, ground := Ground.data }, { on := 10, ground := Ground.guard }], guard := some (10, false) }) (by rfl) (by kernel_rfl) (by kernel_rfl) (by kernel_rfl) (fun _ _ _ h => h) (Or.inl ⟨by rfl, ?_⟩) (by assumption) ?_; rotate_left; focus (intro w hSw; (try dsimp only at hSw); go_simp; (try with_reducible rfl); done)) | (refine wpAnyH_take (i := 17) (v := undef) (oi := { dst := some 57, op := Op.binOp BinOp.neq 3 (Operand.tmp 54) (Operand.tmp 56) 3, type := 4, pos := "law.go:252", after := #[{ on := 14, ground := Ground.data }, { on := 16, ground := Ground.data }, { on := 10, ground := Ground.guard }], guard := some (10, false) }) (by rfl) (by kernel_rfl) (by kernel_rfl) (by kernel_rfl) (fun _ _ _ h => h) (Or.inr ⟨by rfl, rfl⟩) (by assumption) ?_) | fail "region 5 op 17"
          (try simp only [Act.put, List.setIfInBounds_toArray, List.set_cons_zero, List.set_cons_succ])
          refine wpAnyH_take (i := 18) (v := ?_) (oi := { dst := some 58, op := Op.pick (Operand.tmp 50) (Operand.const (Value.bool true)) (Operand.tmp 57), type := 4, pos := "law.go:252", after := #[{ on := 10, ground := Ground.data }, { on := 17, ground := Ground.data }], guard := none }) (by rfl) (by kernel_rfl) (by kernel_rfl) (by kernel_rfl) (fun _ _ _ h => h) (Or.inl ⟨by rfl, ?_⟩) (by assumption) ?_; rotate_left; focus (intro w hSw; (try dsimp only at hSw); go_simp; (try with_reducible rfl); done)
          (try simp only [Act.put, List.setIfInBounds_toArray, List.set_cons_zero, List.set_cons_succ])
          refine wpAnyH_done (by kernel_rfl) ?_ _
          all_goals go_wp2_with fail
          all_goals go_meet
          all_goals exact ⟨by rw [HMT.out]; simp, (by repeat' (first | with_reducible exact Below.refl _ _ | with_reducible assumption | with_reducible refine Below.alloc ?_ ?_ _ | with_reducible refine Below.setCell ?_ ?_ _ | with_reducible refine Below.drew ?_ | with_reducible refine below_drewN ?_ _ | with_reducible refine Below.trans ?_ (Below.mono (by with_reducible assumption) ?_) | omega | (simp <;> omega)))⟩
        case rest =>
          obtain ⟨rfl, hBx⟩ := hcut
          obtain ⟨wx, hwx⟩ : ∃ wx : World, wx = wc := ⟨_, rfl⟩
          subst hwx
          have hsx := hBx.size
          have k0 := (hBx.cell (p := ⟨w.heap.size, 0, none⟩) hz3).trans f0
          have k1 := (hBx.cell (p := ⟨w.heap.size, 1, none⟩) hz3).trans f1
          have k2 := (hBx.cell (p := ⟨w.heap.size, 2, none⟩) hz3).trans f2
          have hBw : Below w.heap.size w wx := hB3.trans (hBx.mono (by omega))
          have hzx : w.heap.size < wx.heap.size := by omega
          clear hBx hB3
          go_wp2_with (first
            | (go_at_call 15; refine (image_no T C B (some ⟨g, 0, none⟩) n' n _ (hs.below (by repeat' (first | with_reducible exact Below.refl _ _ | with_reducible assumption | with_reducible refine Below.alloc ?_ ?_ _ | with_reducible refine Below.setCell ?_ ?_ _ | with_reducible refine Below.drew ?_ | with_reducible refine below_drewN ?_ _ | with_reducible refine Below.trans ?_ (Below.mono (by with_reducible assumption) ?_) | omega | (simp <;> omega)))) HW.out).mono ?_; rintro e w3 ⟨rfl, hb3⟩; obtain ⟨hcc3, hff3⟩ := bcell hb3; have hs3 := hb3.size; (try simp at hs3); have hz3 : w.heap.size < w3.heap.size := (by omega))
            | (go_at_call 9; refine (again_no T C B 3 (some ⟨g, 0, none⟩) n' n _ (hs.below (by repeat' (first | with_reducible exact Below.refl _ _ | with_reducible assumption | with_reducible refine Below.alloc ?_ ?_ _ | with_reducible refine Below.setCell ?_ ?_ _ | with_reducible refine Below.drew ?_ | with_reducible refine below_drewN ?_ _ | with_reducible refine Below.trans ?_ (Below.mono (by with_reducible assumption) ?_) | omega | (simp <;> omega)))) HW.out (by decide)).mono ?_; rintro e w4 ⟨rfl, hb4⟩; obtain ⟨hcc4, hff4⟩ := bcell hb4; have hs4 := hb4.size; (try simp at hs4); have hz4 : w.heap.size < w4.heap.size := (by omega))
            | (go_at_call 7; refine (awake_ok _ (hs.below (by repeat' (first | with_reducible exact Below.refl _ _ | with_reducible assumption | with_reducible refine Below.alloc ?_ ?_ _ | with_reducible refine Below.setCell ?_ ?_ _ | with_reducible refine Below.drew ?_ | with_reducible refine below_drewN ?_ _ | with_reducible refine Below.trans ?_ (Below.mono (by with_reducible assumption) ?_) | omega | (simp <;> omega))))).mono ?_; rintro e w5 ⟨rfl, hb5⟩; obtain ⟨hcc5, hff5⟩ := bcell hb5; have hs5 := hb5.size; (try simp at hs5); have hz5 : w.heap.size < w5.heap.size := (by omega))
            | (go_at_call 13; refine (vcheck_no T C B (some ⟨g, 0, none⟩) n' n _ (hs.below (by repeat' (first | with_reducible exact Below.refl _ _ | with_reducible assumption | with_reducible refine Below.alloc ?_ ?_ _ | with_reducible refine Below.setCell ?_ ?_ _ | with_reducible refine Below.drew ?_ | with_reducible refine below_drewN ?_ _ | with_reducible refine Below.trans ?_ (Below.mono (by with_reducible assumption) ?_) | omega | (simp <;> omega)))) HW.out).mono ?_; rintro e w6 ⟨⟨Q, cq, rfl⟩, hb6⟩; obtain ⟨hcc6, hff6⟩ := bcell hb6; have hs6 := hb6.size; (try simp at hs6); have hz6 : w.heap.size < w6.heap.size := (by omega))
            | (go_at_call 14; refine (vseqs_no T C B (some ⟨g, 0, none⟩) n' n _ (hs.below (by repeat' (first | with_reducible exact Below.refl _ _ | with_reducible assumption | with_reducible refine Below.alloc ?_ ?_ _ | with_reducible refine Below.setCell ?_ ?_ _ | with_reducible refine Below.drew ?_ | with_reducible refine below_drewN ?_ _ | with_reducible refine Below.trans ?_ (Below.mono (by with_reducible assumption) ?_) | omega | (simp <;> omega)))) HW.out).mono ?_; rintro e w7 ⟨rfl, hb7⟩; obtain ⟨hcc7, hff7⟩ := bcell hb7; have hs7 := hb7.size; (try simp at hs7)))
          go_ret
          exact ⟨rfl, (by repeat' (first | with_reducible exact Below.refl _ _ | with_reducible assumption | with_reducible refine Below.alloc ?_ ?_ _ | with_reducible refine Below.setCell ?_ ?_ _ | with_reducible refine Below.drew ?_ | with_reducible refine below_drewN ?_ _ | with_reducible refine Below.trans ?_ (Below.mono (by with_reducible assumption) ?_) | omega | (simp <;> omega)))⟩
      · have hW : Wrong T C B 0 := .inl hf
        have HW := hide hW
        have Hf := hide hf
        clear hW hf
        go_wp2_with (first
          | (go_at_call 11; refine (first_no T C B _ Hf.out).mono ?_; rintro e w2 ⟨rfl, hb2⟩; obtain ⟨hcc2, hff2⟩ := bcell hb2; have hs2 := hb2.size; (try simp at hs2); have hz2 : w.heap.size < w2.heap.size := (by omega))
          | (go_at_call 12; refine (check_no T C B _ Hf.out).mono ?_; rintro e w8 ⟨rfl, hb8⟩; obtain ⟨hcc8, hff8⟩ := bcell hb8; have hs8 := hb8.size; (try simp at hs8); have hz8 : w.heap.size < w8.heap.size := (by omega)))
        go_wp2_with (first
          | (go_at_call 15; refine (image_no T C B none 0 0 _ (hs.below (by repeat' (first | with_reducible exact Below.refl _ _ | with_reducible assumption | with_reducible refine Below.alloc ?_ ?_ _ | with_reducible refine Below.setCell ?_ ?_ _ | with_reducible refine Below.drew ?_ | with_reducible refine below_drewN ?_ _ | with_reducible refine Below.trans ?_ (Below.mono (by with_reducible assumption) ?_) | omega | (simp <;> omega)))) HW.out).mono ?_; rintro e w3 ⟨rfl, hb3⟩; obtain ⟨hcc3, hff3⟩ := bcell hb3; have hs3 := hb3.size; (try simp at hs3); have hz3 : w.heap.size < w3.heap.size := (by omega))
          | (go_at_call 9; refine (again_no T C B 3 none 0 0 _ (hs.below (by repeat' (first | with_reducible exact Below.refl _ _ | with_reducible assumption | with_reducible refine Below.alloc ?_ ?_ _ | with_reducible refine Below.setCell ?_ ?_ _ | with_reducible refine Below.drew ?_ | with_reducible refine below_drewN ?_ _ | with_reducible refine Below.trans ?_ (Below.mono (by with_reducible assumption) ?_) | omega | (simp <;> omega)))) HW.out (by decide)).mono ?_; rintro e w4 ⟨rfl, hb4⟩; obtain ⟨hcc4, hff4⟩ := bcell hb4; have hs4 := hb4.size; (try simp at hs4); have hz4 : w.heap.size < w4.heap.size := (by omega))
          | (go_at_call 7; refine (awake_ok _ (hs.below (by repeat' (first | with_reducible exact Below.refl _ _ | with_reducible assumption | with_reducible refine Below.alloc ?_ ?_ _ | with_reducible refine Below.setCell ?_ ?_ _ | with_reducible refine Below.drew ?_ | with_reducible refine below_drewN ?_ _ | with_reducible refine Below.trans ?_ (Below.mono (by with_reducible assumption) ?_) | omega | (simp <;> omega))))).mono ?_; rintro e w5 ⟨rfl, hb5⟩; obtain ⟨hcc5, hff5⟩ := bcell hb5; have hs5 := hb5.size; (try simp at hs5); have hz5 : w.heap.size < w5.heap.size := (by omega))
          | (go_at_call 13; refine (vcheck_no T C B none 0 0 _ (hs.below (by repeat' (first | with_reducible exact Below.refl _ _ | with_reducible assumption | with_reducible refine Below.alloc ?_ ?_ _ | with_reducible refine Below.setCell ?_ ?_ _ | with_reducible refine Below.drew ?_ | with_reducible refine below_drewN ?_ _ | with_reducible refine Below.trans ?_ (Below.mono (by with_reducible assumption) ?_) | omega | (simp <;> omega)))) HW.out).mono ?_; rintro e w6 ⟨⟨Q, cq, rfl⟩, hb6⟩; obtain ⟨hcc6, hff6⟩ := bcell hb6; have hs6 := hb6.size; (try simp at hs6); have hz6 : w.heap.size < w6.heap.size := (by omega))
          | (go_at_call 14; refine (vseqs_no T C B none 0 0 _ (hs.below (by repeat' (first | with_reducible exact Below.refl _ _ | with_reducible assumption | with_reducible refine Below.alloc ?_ ?_ _ | with_reducible refine Below.setCell ?_ ?_ _ | with_reducible refine Below.drew ?_ | with_reducible refine below_drewN ?_ _ | with_reducible refine Below.trans ?_ (Below.mono (by with_reducible assumption) ?_) | omega | (simp <;> omega)))) HW.out).mono ?_; rintro e w7 ⟨rfl, hb7⟩; obtain ⟨hcc7, hff7⟩ := bcell hb7; have hs7 := hb7.size; (try simp at hs7)))
        go_ret
        exact ⟨rfl, (by repeat' (first | with_reducible exact Below.refl _ _ | with_reducible assumption | with_reducible refine Below.alloc ?_ ?_ _ | with_reducible refine Below.setCell ?_ ?_ _ | with_reducible refine Below.drew ?_ | with_reducible refine below_drewN ?_ _ | with_reducible refine Below.trans ?_ (Below.mono (by with_reducible assumption) ?_) | omega | (simp <;> omega)))⟩
section
variable {H : Type} {enc : TypeId × Value → H} {w : World} {base : Nat} {spare : Nat → Bool} {held : Bool}
set_option maxRecDepth 100000 in
theorem rd_lay {v : Value} {d : DataW H} {p : List MemPlace} {r : Reach} {b0 : Nat} (hv : Value.okWide Tryz.prog w r b0 31 v) (h : DataW.Trod enc Tryz.prog w base spare held 31 v d p) :
    ∃ T C B : Int, v = (.agg #[.int .i64 T, .int .i64 C, .int .i64 B]) := by
  obtain ⟨cs, rfl, hsz⟩ := okWide_struct Tryz.underlying31 hv
  rw [show Tryz.prog.cellsOf 31 = 3 by kernel_rfl] at hsz
  obtain ⟨cs⟩ := cs
  match cs, hsz with
  | [c0, c1, c2], _ =>
    obtain ⟨fuel, hf⟩ := h
    obtain ⟨m', hf⟩ := fields_of Tryz.underlying31 (by kernel_rfl) rfl hf
    obtain ⟨u0, y0, e0, t0⟩ := hf 0 _ rfl
    obtain ⟨u1, y1, e1, t1⟩ := hf 1 _ rfl
    obtain ⟨u2, y2, e2, t2⟩ := hf 2 _ rfl
    injection e0 with e0; subst e0
    injection e1 with e1; subst e1
    injection e2 with e2; subst e2
    obtain ⟨z0, rfl, -⟩ := int_of Tryz.underlying3 t0
    obtain ⟨z1, rfl, -⟩ := int_of Tryz.underlying3 t1
    obtain ⟨z2, rfl, -⟩ := int_of Tryz.underlying3 t2
    exact ⟨z0, z1, z2, rfl⟩
end
set_option maxRecDepth 100000 in
theorem sizesMet {W : World} (h : laidMetH Tryz.prog Rows.reviveNoneRow.laid W) : Sizes W := by
  have ht : Lib.TabIs Tryz.prog W "simulcast/layout.sizes" .i64 [8, 8, 8, 1, 104, 0, 32] := Lib.tabIs_of_head (g := 0) (rest := []) (by kernel_rfl) (by kernel_rfl) Tryz.underlying145 Tryz.underlying3 (by kernel_rfl) (by kernel_rfl) h
  intro k u hu
  have hk := (List.getElem?_eq_some_iff.1 hu).1
  have e : [8, 8, 8, 1, 104, 0, 32][k]'hk = u := (List.getElem?_eq_some_iff.1 hu).2
  rw [← e]
  exact (ht.cell (show Tryz.prog.globalNamed "simulcast/layout.sizes" = some 0 by kernel_rfl) k hk).trans (by rw [List.getD_eq_getElem?_getD, List.getElem?_eq_getElem hk]; rfl)
set_option maxRecDepth 100000 in
theorem walk : LawWalkL Tryz.prog 4 #[31, 5] Rows.reviveNoneRow.laid := by
  intro H enc W base args ds p hval hA hlt hL
  obtain ⟨v0, v1, d0, d1, p0, p1, rfl, rfl, rfl, h0, h1⟩ := trodAll_two hA
  obtain ⟨T, C, B, rfl⟩ := rd_lay (hval 0 31 v0 rfl rfl) h0
  obtain ⟨few, rfl, rfl, rfl, wi⟩ := open_int Tryz.underlying5 (hval 1 5 v1 rfl rfl) h1
  obtain ⟨i0, i1⟩ := bounds_u8 wi
  exact law_ok T C B few W (sizesMet hL) i0 (by omega)
noncomputable def laidWorld (os : Os) : World :=
  { World.holding Tryz.prog os ⟨#[], #[], []⟩ with heap := (World.holding Tryz.prog os ⟨#[], #[], []⟩).heap.modify 0 fun
      | .cells _ t frozen => .cells #[.int .i64 8, .int .i64 8, .int .i64 8, .int .i64 1, .int .i64 104, .int .i64 0, .int .i64 32] t frozen
      | o => o }
set_option maxRecDepth 100000 in
theorem laid_met (os : Os) : laidMet Tryz.prog Rows.reviveNoneRow.laid ((laidWorld os).forCall (fun _ _ => 0) ⟨#[], #[.agg #[.int .i64 0, .int .i64 0, .int .i64 0], .int .u8 0], []⟩).memory :=
  laidMet_of_run' 8 (by kernel_rfl) (by kernel_rfl)
set_option maxRecDepth 100000 in
theorem reads (os : Os) {H : Type} (enc : TypeId × Value → H) : ∃ places, DataW.whole enc Tryz.prog ((laidWorld os).forCall (fun _ _ => 0) ⟨#[], #[.agg #[.int .i64 0, .int .i64 0, .int .i64 0], .int .u8 0], []⟩).memory Tryz.f4.params.toList Rows.reviveNoneSpec.vars false (#[.agg #[.int .i64 0, .int .i64 0, .int .i64 0], .int .u8 0] : Array Value).toList 8 = some ([.agg [.lit (.int .i64 0), .lit (.int .i64 0), .lit (.int .i64 0)], .lit (.int .u8 0)], [], places) :=
  ⟨[], by kernel_rfl⟩
set_option maxRecDepth 100000 in
theorem lifted (os : Os) (started : os.Started) (H : Type) (enc : TypeId × Value → H) (F : Stop.Interp) :
    ReturnsInHanded {} Tryz.checked os 4 .any ((OpenSpec.ofChange Rows.reviveNoneSpec).preRow enc Tryz.prog Tryz.f4 Rows.reviveNoneRow.domain false Rows.reviveNoneRow.laid) (((OpenSpec.ofChange Rows.reviveNoneSpec).at F).post enc Tryz.prog Tryz.f4 false true false false) := by
  obtain ⟨places, hx⟩ := reads os enc
  refine returnsInHanded_of_row (C := Tryz.checked) (s := OpenSpec.ofChange Rows.reviveNoneSpec) own started (by kernel_rfl) Tryz.func4
    (witness_row_at (enc := enc) (C := Tryz.checked) false (laidWorld os) #[.agg #[.int .i64 0, .int .i64 0, .int .i64 0], .int .u8 0] rfl (by kernel_rfl) (by kernel_rfl) (by kernel_rfl)
      (OpenSpec.preRow_of_cond 8 hx (by kernel_rfl) (fun k hk => by cases hk) (by kernel_rfl) (laid_met os))) ?_
  intro W base args ds gs before hval hW _ _ _ hL _ _
  exact law_contract (s := Rows.reviveNoneSpec) (by kernel_rfl) (by kernel_rfl) Tryz.underlying4 (by kernel_rfl) ⟨rfl, fun H ds h => by match ds, h with | [d1, d2], _ => exact ⟨rfl, rfl, rfl⟩⟩ (by rw [Tryz.params4]; exact walk) W base args ds gs before hval hW hL
set_option maxRecDepth 100000 in
theorem over : Rows.reviveNoneRow.holds Tryz.pinned (OpenSpec.ofChange Rows.reviveNoneSpec) :=
  OpenClaim.holds_of_cond 4 Tryz.f4 rfl rfl rfl rfl rfl rfl rfl ⟨rfl, rfl, rfl, rfl, rfl⟩ rfl rfl rfl rfl rfl (by kernel_rfl) Tryz.func4 (by kernel_rfl)
    (of_decide_eq_true (by kernel_rfl)) (by unfold Func.isWrapper; first | (rw [if_pos (by decide +kernel)]; kernel_rfl) | (rw [if_neg (by decide +kernel)]; exact ⟨rfl, rfl⟩))
    (fun os started H enc _ F => by rw [OpenClaim.pre_eq_preRow]; exact lifted os started H enc F)
set_option maxRecDepth 100000 in
theorem plainLaw (f : FuncId) (fn : Func) (hf : Tryz.pinned.checked.prog.funcNamed "simulcast/simulcastlaw56.ReviveNone" = some f) (hfn : Tryz.pinned.checked.prog.funcs[f]? = some fn) :
    true = Tryz.pinned.checked.prog.looks [] ∧ ∀ (j : Nat) t, fn.params[j]? = some t → Tryz.pinned.checked.prog.wantsStandIn t = false := by
  obtain rfl : f = 4 := Option.some.inj ((show Tryz.prog.funcNamed "simulcast/simulcastlaw56.ReviveNone" = some 4 by kernel_rfl).symm.trans hf) |>.symm
  obtain rfl : fn = Tryz.f4 := (Option.some.inj (Tryz.func4.symm.trans hfn)).symm
  refine ⟨by kernel_rfl, fun j t ht => ?_⟩
  rw [Tryz.params4] at ht
  have hm := Array.mem_of_getElem? ht
  have hall : ∀ t ∈ (#[31, 5] : Array TypeId), Tryz.prog.wantsStandIn t = false := by
    intro t h
    simp only [List.mem_toArray, List.mem_cons, List.not_mem_nil, or_false] at h
    rcases h with rfl | rfl
    all_goals kernel_rfl
  exact hall t hm
set_option maxRecDepth 100000 in
theorem card : Rows.ReviveNoneCardSaid :=
  Claim7.holds_tied_plain_at .later [] _ _ _ _ over (fun _ h => by cases h) (by kernel_rfl) (fun _ h => by cases h) reviveNone_row_tie rfl ⟨rfl, rfl⟩ (by kernel_rfl) rfl plainLaw (by kernel_rfl)
theorem proved : Rows.ReviveNoneCardSaid := card
end Go.Proofs.YtbomhhkknopdpaaGreatDoor.lawNone
