/- Whether an instruction may be: the document's answer, in stages: each test is walked once. -/
import Derived.Test.YtngpcalgjaglmaaDoorCodeM
import Derived.Test.YtngpcalgjaglmaaDoorCodeO
import Derived.Deep.DeepCutAuto
import Derived.Deep.Light
import Derived.Deep.CutBlock
namespace Go.Proofs.YtngpcalgjaglmaaDoor
open Go.RowKit
set_option linter.unusedVariables false

set_option maxRecDepth 100000 in
set_option maxHeartbeats 400000 in
theorem reg_any (r : Int) (w : World) : Calls Tryd.prog 54 #[.int .i64 r] w fun e w' => e = .returned (.bool (decide (0 ≤ r ∧ r < 32))) ∧ w = w' := by
  rcases (show r < 0 ∨ (0 ≤ r ∧ r < 32) ∨ 32 ≤ r by omega) with h | ⟨h, h'⟩ | h
  all_goals
    go_enter Tryd.func54, Tryd.ntmps54
    go_wp2
    go_ret
    exact ⟨ret_bool (by rw [Bool.eq_iff_iff]; simp; omega), rfl⟩

def bad1 (o M : Int) (lib iz : Bool) : Prop := iz = false ∨ (lib = false ∧ (22 < o ∨ M ≠ 0)) ∨ (lib = true ∧ o = 22)
def bad2 (M W : Int) (a : Bool) : Prop := M < 0 ∨ 99 < M ∨ W < 0 ∨ 2 < W ∨ (M = 0 ∧ W ≠ 0) ∨ (W ≠ 0 ∧ a = false)
def bad3 (A : Int) (a : Bool) : Prop := (a = true ∧ ¬ (0 ≤ A ∧ A < 32)) ∨ (a = false ∧ A ≠ 0)
def bad4 (B : Int) (b nb : Bool) : Prop := (b = false ∧ B ≠ 0) ∨ (b = true ∧ ¬ (0 ≤ B ∧ B < 32) ∧ ¬ (nb = true ∧ B = -1))
def vee1 (o B : Int) (v : Bool) : Prop := v = true ∧ ¬ (o = 43 ∧ B ≠ -1)
def vee2 (o B C : Int) (v nc : Bool) : Prop := vee1 o B v ∧ ¬ (nc = true ∧ C ≠ -1)
def bad6 (o B C : Int) (V n : Nat) (v nc pl : Bool) : Prop := (¬ vee2 o B C v nc ∧ V ≠ 0) ∨ (pl = true ∧ n ≤ V) ∨ (o = 22 ∧ 1000 ≤ V)
instance (o M : Int) (l i : Bool) : Decidable (bad1 o M l i) := by unfold bad1; infer_instance
instance (M W : Int) (a : Bool) : Decidable (bad2 M W a) := by unfold bad2; infer_instance
instance (A : Int) (a : Bool) : Decidable (bad3 A a) := by unfold bad3; infer_instance
instance (B : Int) (b n : Bool) : Decidable (bad4 B b n) := by unfold bad4; infer_instance
instance (o B : Int) (v : Bool) : Decidable (vee1 o B v) := by unfold vee1; infer_instance
instance (o B C : Int) (v n : Bool) : Decidable (vee2 o B C v n) := by unfold vee2; infer_instance
instance (o B C : Int) (V n : Nat) (v nc pl : Bool) : Decidable (bad6 o B C V n v nc pl) := by unfold bad6; infer_instance
def rightP (o A B C M W : Int) (V n : Nat) (lib a b c v nb nc pl iz : Bool) : Prop := ¬ bad1 o M lib iz ∧ ¬ bad2 M W a ∧ ¬ bad3 A a ∧ ¬ bad4 B b nb ∧ ¬ bad4 C c nc ∧ ¬ bad6 o B C V n v nc pl
instance (o A B C M W : Int) (V n : Nat) (lib a b c v nb nc pl iz : Bool) : Decidable (rightP o A B C M W V n lib a b c v nb nc pl iz) := by unfold rightP; infer_instance

set_option maxRecDepth 100000 in
set_option maxHeartbeats 40000000 in
theorem right_flags (o A B C M W : Int) (V n : Nat) (lib a b c v nb nc pl iz : Bool) (w : World) (hV : V < 18446744073709551616) (hn : n ≤ 9223372036854775807)
    (hO : ∀ w, Calls Tryd.prog 53 #[.int .i64 o] w fun e w' => e = .returned (.agg #[.bool a, .bool b, .bool c, .bool v, .bool nb, .bool nc, .bool pl, .bool iz]) ∧ New w w') :
    Calls Tryd.prog 33 #[.agg #[.int .i64 o, .int .i64 A, .int .i64 B, .int .i64 C, .int .u64 V, .int .i64 M, .int .i64 W], .int .i64 n, .bool lib] w fun e w' => e = .returned (.bool (decide (rightP o A B C M W V n lib a b c v nb nc pl iz))) ∧ New w w' := by
  have HO := Lib.hid hO
  clear hO
  obtain ⟨R, hR⟩ : ∃ R, decide (rightP o A B C M W V n lib a b c v nb nc pl iz) = R := ⟨_, rfl⟩
  rw [hR]
  have HR := Lib.hid hR
  clear hR
  go_enter Tryd.func33, Tryd.ntmps33
  go_wp2_with fail
  obtain ⟨W0, hW0⟩ : ∃ W0, w.alloc (.cells #[.int .i64 o, .int .i64 A, .int .i64 B, .int .i64 C, .int .u64 V, .int .i64 M, .int .i64 W] 52) = W0 := ⟨_, rfl⟩
  have hx0 : Arr W0 w.heap.size [.int .i64 o, .int .i64 A, .int .i64 B, .int .i64 C, .int .u64 V, .int .i64 M, .int .i64 W] := by rw [← hW0]; exact Arr.new _ _ _
  have hn0 : New w W0 := by rw [← hW0]; exact (Fr.refl _ _).alloc _
  rw [hW0]
  have HX0 := Lib.hid hx0
  have HN0 := Lib.hid hn0
  clear hx0 hn0 hW0
  refine (HO.out _).mono ?_
  rintro e W1 ⟨rfl, hn1⟩
  have HN1 := Lib.hid hn1
  clear hn1
  go_upto_region 2 with fail
  obtain ⟨W2, hW2⟩ : ∃ W2, W1.alloc (.cells #[.bool a, .bool b, .bool c, .bool v, .bool nb, .bool nc, .bool pl, .bool iz] 109) = W2 := ⟨_, rfl⟩
  have hy : Arr W2 W1.heap.size [.bool a, .bool b, .bool c, .bool v, .bool nb, .bool nc, .bool pl, .bool iz] := by rw [← hW2]; exact Arr.new _ _ _
  have hn2 : New W0 W2 := by rw [← hW2]; exact HN1.out.alloc _
  have hx := HX0.out.keep hn2 id
  have HN2 := Lib.hid (HN0.out.trans hn2)
  rw [hW2]
  clear hW2 hn2 HX0 HN0 HN1 HO
  have hxlt := hx.lt
  have hylt := hy.lt
  generalize hg : W1.heap.size = g at hy hylt ⊢
  clear hg
  have x0 := hx.cell 0 _ rfl
  have x1 := hx.cell 1 _ rfl
  have x2 := hx.cell 2 _ rfl
  have x3 := hx.cell 3 _ rfl
  have x4 := hx.cell 4 _ rfl
  have x5 := hx.cell 5 _ rfl
  have x6 := hx.cell 6 _ rfl
  have y0 := hy.cell 0 _ rfl
  have y1 := hy.cell 1 _ rfl
  have y2 := hy.cell 2 _ rfl
  have y3 := hy.cell 3 _ rfl
  have y4 := hy.cell 4 _ rfl
  have y5 := hy.cell 5 _ rfl
  have y6 := hy.cell 6 _ rfl
  have y7 := hy.cell 7 _ rfl
  clear hx hy
  go_cut [36] (fun s wx => s = .bool (decide (bad1 o M lib iz)) ∧ W2 = wx)
  case first => as_aux_lemma =>
    obtain ⟨q0, t0⟩ : ∃ x, (M != 0) = x := ⟨_, rfl⟩
    cases iz
    · go_wp2_with fail
      go_meet
      refine ⟨congrArg Value.bool ?_, rfl⟩
      go_light
      rw [Bool.eq_iff_iff]
      unfold bad1
      first | (simp; done) | (simp; omega) | omega
    cases lib
    · by_cases h : 22 < o
      · go_wp2_with fail
        go_meet
        refine ⟨congrArg Value.bool ?_, rfl⟩
        go_light
        rw [Bool.eq_iff_iff]
        unfold bad1
        first | (simp; done) | (simp; omega) | omega
      · cases q0
        · go_wp2_with fail
          go_meet
          refine ⟨congrArg Value.bool ?_, rfl⟩
          go_light
          rw [Bool.eq_iff_iff]
          unfold bad1
          try simp at t0
          first | (simp; done) | (simp; omega) | omega
        · go_wp2_with fail
          go_meet
          refine ⟨congrArg Value.bool ?_, rfl⟩
          go_light
          rw [Bool.eq_iff_iff]
          unfold bad1
          try simp at t0
          first | (simp; done) | (simp; omega) | omega
    · obtain ⟨q1, t1⟩ : ∃ x, (o == 22) = x := ⟨_, rfl⟩
      cases q1
      · go_wp2_with fail
        go_meet
        refine ⟨congrArg Value.bool ?_, rfl⟩
        go_light
        rw [Bool.eq_iff_iff]
        unfold bad1
        try simp at t1
        first | (simp; done) | (simp; omega) | omega
      · go_wp2_with fail
        go_meet
        refine ⟨congrArg Value.bool ?_, rfl⟩
        go_light
        rw [Bool.eq_iff_iff]
        unfold bad1
        try simp at t1
        first | (simp; done) | (simp; omega) | omega
  obtain ⟨rfl, rfl⟩ := hcut
  by_cases hb : bad1 o M lib iz
  · rw [decide_eq_true hb]
    have HB := Lib.hid hb
    clear hb
    go_wp2
    go_ret
    exact ⟨ret_bool (by rw [← HR.out]; exact (decide_eq_false (by have := HB.out; unfold rightP; simp [this])).symm), HN2.out⟩
  rw [decide_eq_false hb]
  have HB1 := Lib.hid hb
  clear hb
  go_upto_region 4 with fail
  go_cut [74] (fun s wx => s = .bool (decide (bad2 M W a)) ∧ W2 = wx)
  case first => as_aux_lemma =>
    rcases (show M < 0 ∨ (0 ≤ M ∧ 99 < M) ∨ (0 ≤ M ∧ M ≤ 99 ∧ W < 0) ∨ (0 ≤ M ∧ M ≤ 99 ∧ 0 ≤ W ∧ 2 < W) ∨ (0 ≤ M ∧ M ≤ 99 ∧ 0 ≤ W ∧ W ≤ 2) by omega) with h | ⟨h, h'⟩ | ⟨h, h', h''⟩ | ⟨h, h', h'', h'''⟩ | ⟨h, h', h'', h'''⟩
    · go_wp2_with fail
      go_meet
      refine ⟨congrArg Value.bool ?_, rfl⟩
      go_light
      rw [Bool.eq_iff_iff]
      unfold bad2
      first | (cases a <;> simp <;> omega) | (simp; done) | (simp; omega)
    · go_wp2_with fail
      go_meet
      refine ⟨congrArg Value.bool ?_, rfl⟩
      go_light
      rw [Bool.eq_iff_iff]
      unfold bad2
      first | (cases a <;> simp <;> omega) | (simp; done) | (simp; omega)
    · go_wp2_with fail
      go_meet
      refine ⟨congrArg Value.bool ?_, rfl⟩
      go_light
      rw [Bool.eq_iff_iff]
      unfold bad2
      first | (cases a <;> simp <;> omega) | (simp; done) | (simp; omega)
    · go_wp2_with fail
      go_meet
      refine ⟨congrArg Value.bool ?_, rfl⟩
      go_light
      rw [Bool.eq_iff_iff]
      unfold bad2
      first | (cases a <;> simp <;> omega) | (simp; done) | (simp; omega)
    · obtain ⟨q0, t0⟩ : ∃ x, (M == 0) = x := ⟨_, rfl⟩
      obtain ⟨q1, t1⟩ : ∃ x, (W != 0) = x := ⟨_, rfl⟩
      cases q1
      · cases q0
        · go_wp2_with fail
          go_meet
          refine ⟨congrArg Value.bool ?_, rfl⟩
          go_light
          rw [Bool.eq_iff_iff]
          unfold bad2
          try simp at t0 t1
          first | (cases a <;> simp <;> omega) | (simp; done) | (simp; omega)
        · go_wp2_with fail
          go_meet
          refine ⟨congrArg Value.bool ?_, rfl⟩
          go_light
          rw [Bool.eq_iff_iff]
          unfold bad2
          try simp at t0 t1
          first | (cases a <;> simp <;> omega) | (simp; done) | (simp; omega)
      · cases q0
        · cases a
          · go_wp2_with fail
            go_meet
            refine ⟨congrArg Value.bool ?_, rfl⟩
            go_light
            rw [Bool.eq_iff_iff]
            unfold bad2
            try simp at t0 t1
            first | (cases a <;> simp <;> omega) | (simp; done) | (simp; omega)
          · go_wp2_with fail
            go_meet
            refine ⟨congrArg Value.bool ?_, rfl⟩
            go_light
            rw [Bool.eq_iff_iff]
            unfold bad2
            try simp at t0 t1
            first | (cases a <;> simp <;> omega) | (simp; done) | (simp; omega)
        · go_wp2_with fail
          go_meet
          refine ⟨congrArg Value.bool ?_, rfl⟩
          go_light
          rw [Bool.eq_iff_iff]
          unfold bad2
          try simp at t0 t1
          first | (cases a <;> simp <;> omega) | (simp; done) | (simp; omega)
  obtain ⟨rfl, rfl⟩ := hcut
  by_cases hb : bad2 M W a
  · rw [decide_eq_true hb]
    have HB := Lib.hid hb
    clear hb
    go_wp2
    go_ret
    exact ⟨ret_bool (by rw [← HR.out]; exact (decide_eq_false (by have := HB.out; unfold rightP; simp [this])).symm), HN2.out⟩
  rw [decide_eq_false hb]
  have HB2 := Lib.hid hb
  clear hb
  go_upto_region 6 with fail
  go_cut [92] (fun s wx => s = .bool (decide (bad3 A a)) ∧ W2 = wx)
  case first => as_aux_lemma =>
    cases a
    · obtain ⟨q0, t0⟩ : ∃ x, (A != 0) = x := ⟨_, rfl⟩
      cases q0
      · go_wp2_with fail
        go_meet
        refine ⟨congrArg Value.bool ?_, rfl⟩
        go_light
        rw [Bool.eq_iff_iff]
        unfold bad3
        try simp at t0
        first | (simp; done) | (simp; omega) | omega
      · go_wp2_with fail
        go_meet
        refine ⟨congrArg Value.bool ?_, rfl⟩
        go_light
        rw [Bool.eq_iff_iff]
        unfold bad3
        try simp at t0
        first | (simp; done) | (simp; omega) | omega
    · rcases (show A < 0 ∨ (0 ≤ A ∧ A < 32) ∨ 32 ≤ A by omega) with h | ⟨h, h'⟩ | h
      · go_wp2_with (go_at_call 54; refine (reg_any _ _).mono ?_; rintro e w' ⟨rfl, rfl⟩)
        go_meet
        refine ⟨congrArg Value.bool ?_, rfl⟩
        go_light
        rw [Bool.eq_iff_iff]
        unfold bad3
        first | (simp; done) | (simp; omega) | omega
      · go_wp2_with (go_at_call 54; refine (reg_any _ _).mono ?_; rintro e w' ⟨rfl, rfl⟩)
        go_meet
        refine ⟨congrArg Value.bool ?_, rfl⟩
        go_light
        rw [Bool.eq_iff_iff]
        unfold bad3
        first | (simp; done) | (simp; omega) | omega
      · go_wp2_with (go_at_call 54; refine (reg_any _ _).mono ?_; rintro e w' ⟨rfl, rfl⟩)
        go_meet
        refine ⟨congrArg Value.bool ?_, rfl⟩
        go_light
        rw [Bool.eq_iff_iff]
        unfold bad3
        first | (simp; done) | (simp; omega) | omega
  obtain ⟨rfl, rfl⟩ := hcut
  by_cases hb : bad3 A a
  · rw [decide_eq_true hb]
    have HB := Lib.hid hb
    clear hb
    go_wp2
    go_ret
    exact ⟨ret_bool (by rw [← HR.out]; exact (decide_eq_false (by have := HB.out; unfold rightP; simp [this])).symm), HN2.out⟩
  rw [decide_eq_false hb]
  have HB3 := Lib.hid hb
  clear hb
  go_upto_block 0 with fail
  go_cut [8] (fun s wx => s = .bool (decide (vee1 o B v)) ∧ W2 = wx ∧ ¬ bad4 B b nb)
  case first => as_aux_lemma =>
    go_upto_region 9 with fail
    go_cut [95] (fun s wx => s = .bool (decide (bad4 B b nb)) ∧ W2 = wx)
    case first => as_aux_lemma =>
      cases b
      · obtain ⟨q0, t0⟩ : ∃ x, (B != 0) = x := ⟨_, rfl⟩
        cases q0
        · go_wp2_with fail
          go_meet
          refine ⟨congrArg Value.bool ?_, rfl⟩
          go_light
          rw [Bool.eq_iff_iff]
          unfold bad4
          try simp at t0
          first | (simp; done) | (simp; omega) | omega
        · go_wp2_with fail
          go_meet
          refine ⟨congrArg Value.bool ?_, rfl⟩
          go_light
          rw [Bool.eq_iff_iff]
          unfold bad4
          try simp at t0
          first | (simp; done) | (simp; omega) | omega
      · rcases (show (0 ≤ B ∧ B < 32) ∨ B < 0 ∨ 32 ≤ B by omega) with ⟨h, h'⟩ | h | h
        · go_wp2_with (go_at_call 54; refine (reg_any _ _).mono ?_; rintro e w' ⟨rfl, rfl⟩)
          go_meet
          refine ⟨congrArg Value.bool ?_, rfl⟩
          go_light
          rw [Bool.eq_iff_iff]
          unfold bad4
          first | (simp; done) | (simp; omega) | omega
        · cases nb
          · go_wp2_with (go_at_call 54; refine (reg_any _ _).mono ?_; rintro e w' ⟨rfl, rfl⟩)
            go_meet
            refine ⟨congrArg Value.bool ?_, rfl⟩
            go_light
            rw [Bool.eq_iff_iff]
            unfold bad4
            first | (simp; done) | (simp; omega) | omega
          · obtain ⟨q0, t0⟩ : ∃ x, (B == -1) = x := ⟨_, rfl⟩
            cases q0
            · go_wp2_with (go_at_call 54; refine (reg_any _ _).mono ?_; rintro e w' ⟨rfl, rfl⟩)
              go_meet
              refine ⟨congrArg Value.bool ?_, rfl⟩
              go_light
              rw [Bool.eq_iff_iff]
              unfold bad4
              try simp at t0
              first | (simp; done) | (simp; omega) | omega
            · go_wp2_with (go_at_call 54; refine (reg_any _ _).mono ?_; rintro e w' ⟨rfl, rfl⟩)
              go_meet
              refine ⟨congrArg Value.bool ?_, rfl⟩
              go_light
              rw [Bool.eq_iff_iff]
              unfold bad4
              try simp at t0
              first | (simp; done) | (simp; omega) | omega
        · cases nb
          · go_wp2_with (go_at_call 54; refine (reg_any _ _).mono ?_; rintro e w' ⟨rfl, rfl⟩)
            go_meet
            refine ⟨congrArg Value.bool ?_, rfl⟩
            go_light
            rw [Bool.eq_iff_iff]
            unfold bad4
            first | (simp; done) | (simp; omega) | omega
          · obtain ⟨q0, t0⟩ : ∃ x, (B == -1) = x := ⟨_, rfl⟩
            cases q0
            · go_wp2_with (go_at_call 54; refine (reg_any _ _).mono ?_; rintro e w' ⟨rfl, rfl⟩)
              go_meet
              refine ⟨congrArg Value.bool ?_, rfl⟩
              go_light
              rw [Bool.eq_iff_iff]
              unfold bad4
              try simp at t0
              first | (simp; done) | (simp; omega) | omega
            · go_wp2_with (go_at_call 54; refine (reg_any _ _).mono ?_; rintro e w' ⟨rfl, rfl⟩)
              go_meet
              refine ⟨congrArg Value.bool ?_, rfl⟩
              go_light
              rw [Bool.eq_iff_iff]
              unfold bad4
              try simp at t0
              first | (simp; done) | (simp; omega) | omega
    obtain ⟨rfl, rfl⟩ := hcut
    by_cases hb : bad4 B b nb
    · rw [decide_eq_true hb]
      have HB := Lib.hid hb
      clear hb
      go_wp2
      go_ret
      exact ⟨ret_bool (by rw [← HR.out]; exact (decide_eq_false (by have := HB.out; unfold rightP; simp [this])).symm), HN2.out⟩
    rw [decide_eq_false hb]
    have HB4 := Lib.hid hb
    clear hb
    go_upto_region 11 with fail
    go_cut [124] (fun s wx => s = .bool (decide (o = 43 ∧ B ≠ -1)) ∧ W2 = wx)
    case first => as_aux_lemma =>
      obtain ⟨q0, t0⟩ : ∃ x, (o == 43) = x := ⟨_, rfl⟩
      obtain ⟨q1, t1⟩ : ∃ x, (B != -1) = x := ⟨_, rfl⟩
      cases q0
      · go_wp2_with fail
        go_meet
        refine ⟨congrArg Value.bool ?_, rfl⟩
        go_light
        rw [Bool.eq_iff_iff]
        try simp at t0
        first | (simp; done) | (simp; omega) | omega
      · cases q1
        · go_wp2_with fail
          go_meet
          refine ⟨congrArg Value.bool ?_, rfl⟩
          go_light
          rw [Bool.eq_iff_iff]
          try simp at t0 t1
          first | (simp; done) | (simp; omega) | omega
        · go_wp2_with fail
          go_meet
          refine ⟨congrArg Value.bool ?_, rfl⟩
          go_light
          rw [Bool.eq_iff_iff]
          try simp at t0 t1
          first | (simp; done) | (simp; omega) | omega
    obtain ⟨rfl, rfl⟩ := hcut
    by_cases hb : o = 43 ∧ B ≠ -1
    · rw [decide_eq_true hb]
      have HB := Lib.hid hb
      clear hb
      go_wp2_with fail
      go_meet
      exact ⟨congrArg Value.bool ((decide_eq_false (fun h => h.2 HB.out)).symm), rfl, HB4.out⟩
    · rw [decide_eq_false hb]
      have HB := Lib.hid hb
      clear hb
      go_wp2_with fail
      go_meet
      exact ⟨congrArg Value.bool (by have := HB.out; cases v <;> simp [vee1, this]), rfl, HB4.out⟩
  obtain ⟨rfl, rfl, hnb⟩ := hcut
  have HB4 := Lib.hid hnb
  clear hnb
  go_upto_block 1 with fail
  go_cut [8] (fun s wx => s = .bool (decide (vee2 o B C v nc)) ∧ W2 = wx ∧ ¬ bad4 C c nc)
  case first => as_aux_lemma =>
    go_upto_region 13 with fail
    go_cut [133] (fun s wx => s = .bool (decide (bad4 C c nc)) ∧ W2 = wx)
    case first => as_aux_lemma =>
      cases c
      · obtain ⟨q0, t0⟩ : ∃ x, (C != 0) = x := ⟨_, rfl⟩
        cases q0
        · go_wp2_with fail
          go_meet
          refine ⟨congrArg Value.bool ?_, rfl⟩
          go_light
          rw [Bool.eq_iff_iff]
          unfold bad4
          try simp at t0
          first | (simp; done) | (simp; omega) | omega
        · go_wp2_with fail
          go_meet
          refine ⟨congrArg Value.bool ?_, rfl⟩
          go_light
          rw [Bool.eq_iff_iff]
          unfold bad4
          try simp at t0
          first | (simp; done) | (simp; omega) | omega
      · rcases (show (0 ≤ C ∧ C < 32) ∨ C < 0 ∨ 32 ≤ C by omega) with ⟨h, h'⟩ | h | h
        · go_wp2_with (go_at_call 54; refine (reg_any _ _).mono ?_; rintro e w' ⟨rfl, rfl⟩)
          go_meet
          refine ⟨congrArg Value.bool ?_, rfl⟩
          go_light
          rw [Bool.eq_iff_iff]
          unfold bad4
          first | (simp; done) | (simp; omega) | omega
        · cases nc
          · go_wp2_with (go_at_call 54; refine (reg_any _ _).mono ?_; rintro e w' ⟨rfl, rfl⟩)
            go_meet
            refine ⟨congrArg Value.bool ?_, rfl⟩
            go_light
            rw [Bool.eq_iff_iff]
            unfold bad4
            first | (simp; done) | (simp; omega) | omega
          · obtain ⟨q0, t0⟩ : ∃ x, (C == -1) = x := ⟨_, rfl⟩
            cases q0
            · go_wp2_with (go_at_call 54; refine (reg_any _ _).mono ?_; rintro e w' ⟨rfl, rfl⟩)
              go_meet
              refine ⟨congrArg Value.bool ?_, rfl⟩
              go_light
              rw [Bool.eq_iff_iff]
              unfold bad4
              try simp at t0
              first | (simp; done) | (simp; omega) | omega
            · go_wp2_with (go_at_call 54; refine (reg_any _ _).mono ?_; rintro e w' ⟨rfl, rfl⟩)
              go_meet
              refine ⟨congrArg Value.bool ?_, rfl⟩
              go_light
              rw [Bool.eq_iff_iff]
              unfold bad4
              try simp at t0
              first | (simp; done) | (simp; omega) | omega
        · cases nc
          · go_wp2_with (go_at_call 54; refine (reg_any _ _).mono ?_; rintro e w' ⟨rfl, rfl⟩)
            go_meet
            refine ⟨congrArg Value.bool ?_, rfl⟩
            go_light
            rw [Bool.eq_iff_iff]
            unfold bad4
            first | (simp; done) | (simp; omega) | omega
          · obtain ⟨q0, t0⟩ : ∃ x, (C == -1) = x := ⟨_, rfl⟩
            cases q0
            · go_wp2_with (go_at_call 54; refine (reg_any _ _).mono ?_; rintro e w' ⟨rfl, rfl⟩)
              go_meet
              refine ⟨congrArg Value.bool ?_, rfl⟩
              go_light
              rw [Bool.eq_iff_iff]
              unfold bad4
              try simp at t0
              first | (simp; done) | (simp; omega) | omega
            · go_wp2_with (go_at_call 54; refine (reg_any _ _).mono ?_; rintro e w' ⟨rfl, rfl⟩)
              go_meet
              refine ⟨congrArg Value.bool ?_, rfl⟩
              go_light
              rw [Bool.eq_iff_iff]
              unfold bad4
              try simp at t0
              first | (simp; done) | (simp; omega) | omega
    obtain ⟨rfl, rfl⟩ := hcut
    by_cases hb : bad4 C c nc
    · rw [decide_eq_true hb]
      have HB := Lib.hid hb
      clear hb
      go_wp2
      go_ret
      exact ⟨ret_bool (by rw [← HR.out]; exact (decide_eq_false (by have := HB.out; unfold rightP; simp [this])).symm), HN2.out⟩
    rw [decide_eq_false hb]
    have HB5 := Lib.hid hb
    clear hb
    go_upto_region 15 with fail
    go_cut [162] (fun s wx => s = .bool (decide (nc = true ∧ C ≠ -1)) ∧ W2 = wx)
    case first => as_aux_lemma =>
      cases nc
      · go_wp2_with fail
        go_meet
        refine ⟨congrArg Value.bool ?_, rfl⟩
        go_light
        rw [Bool.eq_iff_iff]
        first | (simp; done) | (simp; omega) | omega
      · obtain ⟨q1, t1⟩ : ∃ x, (C != -1) = x := ⟨_, rfl⟩
        cases q1
        · go_wp2_with fail
          go_meet
          refine ⟨congrArg Value.bool ?_, rfl⟩
          go_light
          rw [Bool.eq_iff_iff]
          try simp at t1
          first | (simp; done) | (simp; omega) | omega
        · go_wp2_with fail
          go_meet
          refine ⟨congrArg Value.bool ?_, rfl⟩
          go_light
          rw [Bool.eq_iff_iff]
          try simp at t1
          first | (simp; done) | (simp; omega) | omega
    obtain ⟨rfl, rfl⟩ := hcut
    by_cases hb : nc = true ∧ C ≠ -1
    · rw [decide_eq_true hb]
      have HB := Lib.hid hb
      clear hb
      go_wp2_with fail
      go_meet
      exact ⟨congrArg Value.bool ((decide_eq_false (fun h => h.2 HB.out)).symm), rfl, HB5.out⟩
    · rw [decide_eq_false hb]
      have HB := Lib.hid hb
      clear hb
      go_wp2_with fail
      go_meet
      exact ⟨congrArg Value.bool (by have := HB.out; unfold vee2; rw [Bool.eq_iff_iff]; simp [this]), rfl, HB5.out⟩
  obtain ⟨rfl, rfl, hnb⟩ := hcut
  have HB5 := Lib.hid hnb
  clear hnb
  obtain ⟨ve, hve⟩ : ∃ x, decide (vee2 o B C v nc) = x := ⟨_, rfl⟩
  have hvv : vee2 o B C v nc ↔ ve = true := by rw [← hve]; simp
  rw [hve]
  have h6 : decide (bad6 o B C V n v nc pl) = decide ((ve = false ∧ V ≠ 0) ∨ (pl = true ∧ n ≤ V) ∨ (o = 22 ∧ 1000 ≤ V)) := by
    apply decide_eq_decide.2
    unfold bad6
    rw [hvv]
    cases ve <;> simp
  have H6 := Lib.hid h6
  clear hve hvv h6
  go_upto_region 17 with fail
  go_cut [197] (fun s wx => s = .bool (decide (bad6 o B C V n v nc pl)) ∧ W2 = wx)
  case first => as_aux_lemma =>
    obtain ⟨q0, t0⟩ : ∃ x, ((V : Int) != 0) = x := ⟨_, rfl⟩
    obtain ⟨q1, t1⟩ : ∃ x, (o == 22) = x := ⟨_, rfl⟩
    cases ve
    · cases q0
      · cases pl
        · cases q1
          · go_wp2_with fail
            go_meet
            refine ⟨congrArg Value.bool ?_, rfl⟩
            go_light
            rw [H6.out, Bool.eq_iff_iff]
            try simp at t0 t1
            first | (simp; done) | (simp; omega) | omega
          · rcases (show 1000 ≤ V ∨ V < 1000 by omega) with h | h
            · go_wp2_with fail
              go_meet
              refine ⟨congrArg Value.bool ?_, rfl⟩
              go_light
              rw [H6.out, Bool.eq_iff_iff]
              try simp at t0 t1
              first | (simp; done) | (simp; omega) | omega
            · go_wp2_with fail
              go_meet
              refine ⟨congrArg Value.bool ?_, rfl⟩
              go_light
              rw [H6.out, Bool.eq_iff_iff]
              try simp at t0 t1
              first | (simp; done) | (simp; omega) | omega
        · rcases (show n ≤ V ∨ V < n by omega) with h0 | h0
          · go_wp2_with fail
            go_meet
            refine ⟨congrArg Value.bool ?_, rfl⟩
            go_light
            rw [H6.out, Bool.eq_iff_iff]
            try simp at t0 t1
            first | (simp; done) | (simp; omega) | omega
          · cases q1
            · go_wp2_with fail
              go_meet
              refine ⟨congrArg Value.bool ?_, rfl⟩
              go_light
              rw [H6.out, Bool.eq_iff_iff]
              try simp at t0 t1
              first | (simp; done) | (simp; omega) | omega
            · rcases (show 1000 ≤ V ∨ V < 1000 by omega) with h | h
              · go_wp2_with fail
                go_meet
                refine ⟨congrArg Value.bool ?_, rfl⟩
                go_light
                rw [H6.out, Bool.eq_iff_iff]
                try simp at t0 t1
                first | (simp; done) | (simp; omega) | omega
              · go_wp2_with fail
                go_meet
                refine ⟨congrArg Value.bool ?_, rfl⟩
                go_light
                rw [H6.out, Bool.eq_iff_iff]
                try simp at t0 t1
                first | (simp; done) | (simp; omega) | omega
      · go_wp2_with fail
        go_meet
        refine ⟨congrArg Value.bool ?_, rfl⟩
        go_light
        rw [H6.out, Bool.eq_iff_iff]
        try simp at t0 t1
        first | (simp; done) | (simp; omega) | omega
    · cases pl
      · cases q1
        · go_wp2_with fail
          go_meet
          refine ⟨congrArg Value.bool ?_, rfl⟩
          go_light
          rw [H6.out, Bool.eq_iff_iff]
          try simp at t0 t1
          first | (simp; done) | (simp; omega) | omega
        · rcases (show 1000 ≤ V ∨ V < 1000 by omega) with h | h
          · go_wp2_with fail
            go_meet
            refine ⟨congrArg Value.bool ?_, rfl⟩
            go_light
            rw [H6.out, Bool.eq_iff_iff]
            try simp at t0 t1
            first | (simp; done) | (simp; omega) | omega
          · go_wp2_with fail
            go_meet
            refine ⟨congrArg Value.bool ?_, rfl⟩
            go_light
            rw [H6.out, Bool.eq_iff_iff]
            try simp at t0 t1
            first | (simp; done) | (simp; omega) | omega
      · rcases (show n ≤ V ∨ V < n by omega) with h0 | h0
        · go_wp2_with fail
          go_meet
          refine ⟨congrArg Value.bool ?_, rfl⟩
          go_light
          rw [H6.out, Bool.eq_iff_iff]
          try simp at t0 t1
          first | (simp; done) | (simp; omega) | omega
        · cases q1
          · go_wp2_with fail
            go_meet
            refine ⟨congrArg Value.bool ?_, rfl⟩
            go_light
            rw [H6.out, Bool.eq_iff_iff]
            try simp at t0 t1
            first | (simp; done) | (simp; omega) | omega
          · rcases (show 1000 ≤ V ∨ V < 1000 by omega) with h | h
            · go_wp2_with fail
              go_meet
              refine ⟨congrArg Value.bool ?_, rfl⟩
              go_light
              rw [H6.out, Bool.eq_iff_iff]
              try simp at t0 t1
              first | (simp; done) | (simp; omega) | omega
            · go_wp2_with fail
              go_meet
              refine ⟨congrArg Value.bool ?_, rfl⟩
              go_light
              rw [H6.out, Bool.eq_iff_iff]
              try simp at t0 t1
              first | (simp; done) | (simp; omega) | omega
  obtain ⟨rfl, rfl⟩ := hcut
  by_cases hb : bad6 o B C V n v nc pl
  · rw [decide_eq_true hb]
    have HB := Lib.hid hb
    clear hb
    go_wp2
    go_ret
    exact ⟨ret_bool (by rw [← HR.out]; exact (decide_eq_false (by have := HB.out; unfold rightP; simp [this])).symm), HN2.out⟩
  rw [decide_eq_false hb]
  have HB6 := Lib.hid hb
  clear hb
  go_wp2
  go_ret
  exact ⟨ret_bool (by rw [← HR.out]; exact (decide_eq_true ⟨HB1.out, HB2.out, HB3.out, HB4.out, HB5.out, HB6.out⟩).symm), HN2.out⟩

/-- What the flags of an op have to do with each other. -/
theorem fit4 (o : Int) : (plc o = true → fV o = true ∧ noC o = false ∧ o ≠ 43 ∧ o ≠ 22) ∧ (noC o = true → fV o = true ∧ o ≠ 43 ∧ o ≠ 22) ∧ (o = 43 → fV o = true) ∧ (o = 22 → fV o = true) := by
  by_cases h : o < 1 ∨ 58 < o
  · obtain ⟨_, _, _, h4, _, h6, h7, _⟩ := far_of o h
    rw [h6, h7]
    refine ⟨fun e => (by cases e), fun e => (by cases e), fun e => (by omega), fun e => (by omega)⟩
  · rcases ops_all o h with rfl | rfl | rfl | rfl | rfl | rfl | rfl | rfl | rfl | rfl | rfl | rfl | rfl | rfl | rfl | rfl | rfl | rfl | rfl | rfl | rfl | rfl | rfl | rfl | rfl | rfl | rfl | rfl | rfl | rfl | rfl | rfl | rfl | rfl | rfl | rfl | rfl | rfl | rfl | rfl | rfl | rfl | rfl | rfl | rfl | rfl | rfl | rfl | rfl | rfl | rfl | rfl | rfl | rfl | rfl | rfl | rfl | rfl <;> decide

theorem not_bad1 (o M : Int) (lib : Bool) : ¬ bad1 o M lib (isOp o) ↔ (1 ≤ o ∧ o ≤ 58) ∧ ¬ (lib = true ∧ o = 22) ∧ (lib = true ∨ (o ≤ 22 ∧ M = 0)) := by
  have h5 : isOp o = false ↔ ¬ (1 ≤ o ∧ o ≤ 58) := by unfold isOp; simp
  unfold bad1
  rw [h5]
  cases lib <;> simp <;> omega
theorem not_bad2 (M W : Int) (a : Bool) : ¬ bad2 M W a ↔ (0 ≤ M ∧ M ≤ 99 ∧ 0 ≤ W ∧ W ≤ 2) ∧ (W = 0 ∨ (0 < M ∧ a = true)) := by
  unfold bad2; cases a <;> simp <;> omega
theorem not_bad3 (A : Int) (a : Bool) : ¬ bad3 A a ↔ regP A (a = true) (false = true) := by
  unfold bad3 regP; cases a <;> simp <;> omega
theorem not_bad4 (B : Int) (b nb : Bool) : ¬ bad4 B b nb ↔ regP B (b = true) (nb = true) := by
  unfold bad4 regP; cases b <;> cases nb <;> simp <;> omega
theorem not_bad6 (o B C : Int) (V n : Nat) : ¬ bad6 o B C V n (fV o) (noC o) (plc o) ↔ numP o B C V n (fV o = true) := by
  obtain ⟨h1, h2, h3, h4⟩ := fit4 o
  unfold bad6 vee2 vee1 numP
  revert h1 h2 h3 h4
  generalize fV o = v
  generalize noC o = c
  generalize plc o = p
  intro h1 h2 h3 h4
  cases v <;> cases c <;> cases p <;> simp at h1 h2 h3 h4 ⊢ <;> omega
theorem right_is (o A B C M W : Int) (V n : Nat) (lib : Bool) : decide (rightP o A B C M W V n lib (fA o) (fB o) (fC o) (fV o) (noB o) (noC o) (plc o) (isOp o)) = mayB o A B C V M W n lib := by
  unfold mayB headB restB regB numB tailB
  rw [Bool.eq_iff_iff, decide_eq_true_eq]
  unfold rightP
  rw [not_bad1, not_bad2, not_bad3, not_bad4, not_bad4, not_bad6]
  simp only [Bool.and_eq_true, decide_eq_true_eq]
  constructor
  · rintro ⟨p1, p2, p3, p4, p5, p6⟩; exact ⟨p1, p3, p4, p5, p6, p2⟩
  · rintro ⟨p1, p3, p4, p5, p6, p2⟩; exact ⟨p1, p2, p3, p4, p5, p6⟩

theorem right_any (o A B C M W : Int) (V n : Nat) (lib : Bool) (w : World) (hV : V < 18446744073709551616) (hn : n ≤ 9223372036854775807) : Calls Tryd.prog 33 #[.agg #[.int .i64 o, .int .i64 A, .int .i64 B, .int .i64 C, .int .u64 V, .int .i64 M, .int .i64 W], .int .i64 n, .bool lib] w fun e w' => e = .returned (.bool (mayB o A B C V M W n lib)) ∧ New w w' := by
  rw [← right_is]
  exact right_flags o A B C M W V n lib _ _ _ _ _ _ _ _ w hV hn (fun w => of_any o w)

end Go.Proofs.YtngpcalgjaglmaaDoor
