/- Whether an instruction may be: the program's answer, in stages. (Printed by gen_maycut.py.) -/
import Derived.Test.YtngpcalgjaglmaaDoorCodeM
import Derived.Deep.DeepCutAuto
import Derived.Deep.CutBlock
namespace Go.Proofs.YtngpcalgjaglmaaDoor
open Go.RowKit
set_option linter.unusedVariables false

set_option maxRecDepth 100000 in
set_option maxHeartbeats 1000000 in
theorem may_head (o : Int) (A B C M W : Int) (V n : Nat) (lib : Bool) (w : World) (hV : V < 18446744073709551616) (hn : n ≤ 9223372036854775807) (h : o < 1 ∨ 58 < o ∨ (lib = true ∧ o = 22) ∨ (lib = false ∧ (22 < o ∨ M ≠ 0))) : Calls Tryd.prog 65 #[.agg #[.int .i64 o, .int .i64 A, .int .i64 B, .int .i64 C, .int .u64 V, .int .i64 M, .int .i64 W], .int .i64 n, .bool lib] w fun e w' => e = .returned (.bool false) ∧ New w w' := by
  have hcs : o < 1 ∨ 58 < o ∨ (lib = true ∧ 1 ≤ o ∧ o ≤ 58 ∧ (o == 22) = true) ∨ (lib = false ∧ 1 ≤ o ∧ o ≤ 58 ∧ 22 < o) ∨ (lib = false ∧ 1 ≤ o ∧ o ≤ 22 ∧ (M != 0) = true) := by
    rcases h with h | h | ⟨h, h'⟩ | ⟨h, h' | h'⟩
    · exact .inl h
    · exact .inr (.inl h)
    · exact .inr (.inr (.inl ⟨h, by omega, by omega, by rw [beq_iff_eq]; exact h'⟩))
    · by_cases h2 : 58 < o
      · exact .inr (.inl h2)
      · exact .inr (.inr (.inr (.inl ⟨h, by omega, by omega, h'⟩)))
    · by_cases h2 : o < 1
      · exact .inl h2
      · by_cases h3 : 58 < o
        · exact .inr (.inl h3)
        · by_cases h4 : 22 < o
          · exact .inr (.inr (.inr (.inl ⟨h, by omega, by omega, h4⟩)))
          · exact .inr (.inr (.inr (.inr ⟨h, by omega, by omega, by rw [bne_iff_ne]; exact h'⟩)))
  clear h
  rcases hcs with h | h | ⟨rfl, h1, h2, h3⟩ | ⟨rfl, h1, h2, h3⟩ | ⟨rfl, h1, h2, h3⟩
  · go_enter Tryd.func65, Tryd.ntmps65
    go_wp2
    go_ret
    exact ⟨rfl, (Fr.refl _ _).alloc _⟩
  · go_enter Tryd.func65, Tryd.ntmps65
    go_wp2
    go_ret
    exact ⟨rfl, (Fr.refl _ _).alloc _⟩
  · go_enter Tryd.func65, Tryd.ntmps65
    go_wp2
    go_ret
    exact ⟨rfl, (Fr.refl _ _).alloc _⟩
  · go_enter Tryd.func65, Tryd.ntmps65
    go_wp2
    go_ret
    exact ⟨rfl, (Fr.refl _ _).alloc _⟩
  · go_enter Tryd.func65, Tryd.ntmps65
    go_wp2
    go_ret
    exact ⟨rfl, (Fr.refl _ _).alloc _⟩

set_option maxRecDepth 100000 in
set_option maxHeartbeats 4000000 in
theorem may_rest (o A B C M W : Int) (V n : Nat) (lib a b c v nb nc : Bool) (w : World) (hV : V < 18446744073709551616) (hn : n ≤ 9223372036854775807) (h1 : 1 ≤ o) (h2 : o ≤ 58) (hl : lib = true → o ≠ 22) (hl' : lib = false → o ≤ 22 ∧ M = 0)
    (ea : fA o = a) (eb : fB o = b) (ec : fC o = c) (ev : fV o = v) (enb : noB o = nb) (enc : noC o = nc) :
    Calls Tryd.prog 65 #[.agg #[.int .i64 o, .int .i64 A, .int .i64 B, .int .i64 C, .int .u64 V, .int .i64 M, .int .i64 W], .int .i64 n, .bool lib] w fun e w' => e = .returned (.bool (regB A a false && (regB B b nb && (regB C c nc && (numB o B C V n v && tailB M W a))))) ∧ New w w' := by
  have hF := fun w => fields_any o w
  rw [ea, eb, ec, ev] at hF
  have HF := Lib.hid hF
  obtain ⟨r1, e1⟩ : ∃ x, regB A a false = x := ⟨_, rfl⟩
  obtain ⟨r2, e2⟩ : ∃ x, regB B b nb = x := ⟨_, rfl⟩
  obtain ⟨r3, e3⟩ : ∃ x, regB C c nc = x := ⟨_, rfl⟩
  obtain ⟨r4, e4⟩ : ∃ x, numB o B C V n v = x := ⟨_, rfl⟩
  have hr1 := fun w => register_any A a false w
  have hr2 := fun w => register_any B b nb w
  have hr3 := fun w => register_any C c nc w
  have hr4 := fun w => number_any o A B C M W V n v w hV hn
  rw [e1] at hr1 ⊢
  rw [e2] at hr2 ⊢
  rw [e3] at hr3 ⊢
  rw [e4] at hr4 ⊢
  have H1 := Lib.hid hr1
  have H2 := Lib.hid hr2
  have H3 := Lib.hid hr3
  have H4 := Lib.hid hr4
  have HL := Lib.hid hl
  have HL' := Lib.hid hl'
  have ENB := Lib.hid enb
  have ENC := Lib.hid enc
  clear hF hr1 hr2 hr3 hr4 e1 e2 e3 e4 hl hl' ea eb ec ev enb enc
  obtain ⟨T, hT⟩ : ∃ T, tailB M W a = T := ⟨_, rfl⟩
  rw [hT]
  have HT := Lib.hid hT
  clear hT
  go_enter Tryd.func65, Tryd.ntmps65
  go_upto_region 1 with fail
  obtain ⟨W0, hW0⟩ : ∃ W0, w.alloc (.cells #[.int .i64 o, .int .i64 A, .int .i64 B, .int .i64 C, .int .u64 V, .int .i64 M, .int .i64 W] 52) = W0 := ⟨_, rfl⟩
  have hx : Arr W0 w.heap.size [.int .i64 o, .int .i64 A, .int .i64 B, .int .i64 C, .int .u64 V, .int .i64 M, .int .i64 W] := by rw [← hW0]; exact Arr.new _ _ _
  have hn0 : New w W0 := by rw [← hW0]; exact (Fr.refl _ _).alloc _
  rw [hW0]
  have HX := Lib.hid hx
  have HN0 := Lib.hid hn0
  have hxlt := hx.lt
  have x0 := hx.cell 0 _ rfl
  have x1 := hx.cell 1 _ rfl
  have x2 := hx.cell 2 _ rfl
  have x3 := hx.cell 3 _ rfl
  have x4 := hx.cell 4 _ rfl
  have x5 := hx.cell 5 _ rfl
  have x6 := hx.cell 6 _ rfl
  clear hx hn0 hW0
  go_cut [42] (fun s wx => s = .bool false ∧ W0 = wx)
  case first => as_aux_lemma =>
    cases lib
    · have t1 : (M != 0) = false := by rw [(HL'.out rfl).2]; rfl
      have t2 := (HL'.out rfl).1
      go_wp2_with fail
      go_meet
      exact ⟨congrArg Value.bool (by simp; omega), rfl⟩
    · have t1 : (o == 22) = false := beq_eq_false_iff_ne.2 (HL.out rfl)
      go_wp2_with fail
      go_meet
      exact ⟨congrArg Value.bool (by simp; omega), rfl⟩
  obtain ⟨rfl, rfl⟩ := hcut
  go_wp2_with fail
  refine (HF.out _).mono ?_
  rintro e w' ⟨rfl, rfl⟩
  go_upto_block 0 with fail
  go_cut [11, 12] (fun s t wx => s = .bool nb ∧ t = .bool nc ∧ W0 = wx)
  case first => as_aux_lemma =>
    rcases (show o = 17 ∨ o = 18 ∨ o = 19 ∨ o = 20 ∨ o = 21 ∨ o = 31 ∨ o = 32 ∨ o = 43 ∨ o = 3 ∨ o = 4 ∨ o = 5 ∨ o = 6 ∨ o = 7 ∨ o = 8 ∨ o = 9 ∨ o = 10 ∨ o = 11 ∨ ((1 ≤ o ∧ o ≤ 2) ∨ (12 ≤ o ∧ o ≤ 16) ∨ (22 ≤ o ∧ o ≤ 30) ∨ (33 ≤ o ∧ o ≤ 42) ∨ (44 ≤ o ∧ o ≤ 58)) by omega) with rfl | rfl | rfl | rfl | rfl | rfl | rfl | rfl | rfl | rfl | rfl | rfl | rfl | rfl | rfl | rfl | rfl | h
    · obtain rfl : nb = true := by rw [← ENB.out]; rfl
      obtain rfl : nc = false := by rw [← ENC.out]; rfl
      go_wp2_with fail
      go_meet
      exact ⟨rfl, rfl, rfl⟩
    · obtain rfl : nb = true := by rw [← ENB.out]; rfl
      obtain rfl : nc = false := by rw [← ENC.out]; rfl
      go_wp2_with fail
      go_meet
      exact ⟨rfl, rfl, rfl⟩
    · obtain rfl : nb = true := by rw [← ENB.out]; rfl
      obtain rfl : nc = false := by rw [← ENC.out]; rfl
      go_wp2_with fail
      go_meet
      exact ⟨rfl, rfl, rfl⟩
    · obtain rfl : nb = true := by rw [← ENB.out]; rfl
      obtain rfl : nc = false := by rw [← ENC.out]; rfl
      go_wp2_with fail
      go_meet
      exact ⟨rfl, rfl, rfl⟩
    · obtain rfl : nb = true := by rw [← ENB.out]; rfl
      obtain rfl : nc = false := by rw [← ENC.out]; rfl
      go_wp2_with fail
      go_meet
      exact ⟨rfl, rfl, rfl⟩
    · obtain rfl : nb = true := by rw [← ENB.out]; rfl
      obtain rfl : nc = false := by rw [← ENC.out]; rfl
      go_wp2_with fail
      go_meet
      exact ⟨rfl, rfl, rfl⟩
    · obtain rfl : nb = true := by rw [← ENB.out]; rfl
      obtain rfl : nc = false := by rw [← ENC.out]; rfl
      go_wp2_with fail
      go_meet
      exact ⟨rfl, rfl, rfl⟩
    · obtain rfl : nb = true := by rw [← ENB.out]; rfl
      obtain rfl : nc = false := by rw [← ENC.out]; rfl
      go_wp2_with fail
      go_meet
      exact ⟨rfl, rfl, rfl⟩
    · obtain rfl : nb = false := by rw [← ENB.out]; rfl
      obtain rfl : nc = true := by rw [← ENC.out]; rfl
      go_wp2_with fail
      go_meet
      exact ⟨rfl, rfl, rfl⟩
    · obtain rfl : nb = false := by rw [← ENB.out]; rfl
      obtain rfl : nc = true := by rw [← ENC.out]; rfl
      go_wp2_with fail
      go_meet
      exact ⟨rfl, rfl, rfl⟩
    · obtain rfl : nb = false := by rw [← ENB.out]; rfl
      obtain rfl : nc = true := by rw [← ENC.out]; rfl
      go_wp2_with fail
      go_meet
      exact ⟨rfl, rfl, rfl⟩
    · obtain rfl : nb = false := by rw [← ENB.out]; rfl
      obtain rfl : nc = true := by rw [← ENC.out]; rfl
      go_wp2_with fail
      go_meet
      exact ⟨rfl, rfl, rfl⟩
    · obtain rfl : nb = false := by rw [← ENB.out]; rfl
      obtain rfl : nc = true := by rw [← ENC.out]; rfl
      go_wp2_with fail
      go_meet
      exact ⟨rfl, rfl, rfl⟩
    · obtain rfl : nb = false := by rw [← ENB.out]; rfl
      obtain rfl : nc = true := by rw [← ENC.out]; rfl
      go_wp2_with fail
      go_meet
      exact ⟨rfl, rfl, rfl⟩
    · obtain rfl : nb = false := by rw [← ENB.out]; rfl
      obtain rfl : nc = true := by rw [← ENC.out]; rfl
      go_wp2_with fail
      go_meet
      exact ⟨rfl, rfl, rfl⟩
    · obtain rfl : nb = false := by rw [← ENB.out]; rfl
      obtain rfl : nc = true := by rw [← ENC.out]; rfl
      go_wp2_with fail
      go_meet
      exact ⟨rfl, rfl, rfl⟩
    · obtain rfl : nb = false := by rw [← ENB.out]; rfl
      obtain rfl : nc = true := by rw [← ENC.out]; rfl
      go_wp2_with fail
      go_meet
      exact ⟨rfl, rfl, rfl⟩
    · obtain rfl : nb = false := by rw [← ENB.out]; unfold noB; rw [List.contains_eq_any_beq]; simp; omega
      obtain rfl : nc = false := by rw [← ENC.out]; unfold noC; rw [List.contains_eq_any_beq]; simp; omega
      have t3 : (o == 3) = false := beq_eq_false_iff_ne.2 (by omega)
      have t4 : (o == 4) = false := beq_eq_false_iff_ne.2 (by omega)
      have t5 : (o == 5) = false := beq_eq_false_iff_ne.2 (by omega)
      have t6 : (o == 6) = false := beq_eq_false_iff_ne.2 (by omega)
      have t7 : (o == 7) = false := beq_eq_false_iff_ne.2 (by omega)
      have t8 : (o == 8) = false := beq_eq_false_iff_ne.2 (by omega)
      have t9 : (o == 9) = false := beq_eq_false_iff_ne.2 (by omega)
      have t10 : (o == 10) = false := beq_eq_false_iff_ne.2 (by omega)
      have t11 : (o == 11) = false := beq_eq_false_iff_ne.2 (by omega)
      have t17 : (o == 17) = false := beq_eq_false_iff_ne.2 (by omega)
      have t18 : (o == 18) = false := beq_eq_false_iff_ne.2 (by omega)
      have t19 : (o == 19) = false := beq_eq_false_iff_ne.2 (by omega)
      have t20 : (o == 20) = false := beq_eq_false_iff_ne.2 (by omega)
      have t21 : (o == 21) = false := beq_eq_false_iff_ne.2 (by omega)
      have t31 : (o == 31) = false := beq_eq_false_iff_ne.2 (by omega)
      have t32 : (o == 32) = false := beq_eq_false_iff_ne.2 (by omega)
      have t43 : (o == 43) = false := beq_eq_false_iff_ne.2 (by omega)
      clear h
      go_wp2_with fail
      go_meet
      exact ⟨rfl, rfl, rfl⟩
  obtain ⟨rfl, rfl, rfl⟩ := hcut
  go_upto_region 25 with fail
  go_cut [99] (fun s wx => s = .bool (!(r1 && (r2 && (r3 && r4)))) ∧ New W0 wx)
  case first => as_aux_lemma =>
    cases r1
    · go_wp2_with fail
      refine (H1.out _).mono ?_
      rintro e w' ⟨rfl, rfl⟩
      go_wp2_with fail
      go_meet
      exact ⟨rfl, Fr.refl _ _⟩
    go_wp2_with fail
    refine (H1.out _).mono ?_
    rintro e w' ⟨rfl, rfl⟩
    cases r2
    · go_wp2_with fail
      refine (H2.out _).mono ?_
      rintro e w' ⟨rfl, rfl⟩
      go_wp2_with fail
      go_meet
      exact ⟨rfl, Fr.refl _ _⟩
    go_wp2_with fail
    refine (H2.out _).mono ?_
    rintro e w' ⟨rfl, rfl⟩
    cases r3
    · go_wp2_with fail
      refine (H3.out _).mono ?_
      rintro e w' ⟨rfl, rfl⟩
      go_wp2_with fail
      go_meet
      exact ⟨rfl, Fr.refl _ _⟩
    go_wp2_with fail
    refine (H3.out _).mono ?_
    rintro e w' ⟨rfl, rfl⟩
    go_wp2_with fail
    refine (H4.out _).mono ?_
    rintro e w5 ⟨rfl, hn5⟩
    have HN5 := Lib.hid hn5
    clear hn5
    cases r4
    · go_wp2_with fail
      go_meet
      exact ⟨rfl, HN5.out⟩
    · go_wp2_with fail
      go_meet
      exact ⟨rfl, HN5.out⟩
  obtain ⟨rfl, hnw⟩ := hcut
  have hx := HX.out.keep hnw id
  have HN := Lib.hid (HN0.out.trans hnw)
  clear x0 x1 x2 x3 x4 x5 x6 hnw hxlt
  have hxlt := hx.lt
  have x5 := hx.cell 5 _ rfl
  have x6 := hx.cell 6 _ rfl
  clear hx
  obtain ⟨rr, hrr⟩ : ∃ x, (r1 && (r2 && (r3 && r4))) = x := ⟨_, rfl⟩
  have hfin : (r1 && (r2 && (r3 && (r4 && T)))) = (rr && T) := by rw [← hrr]; cases r1 <;> cases r2 <;> cases r3 <;> simp
  rw [hrr]
  have HFIN := Lib.hid hfin
  clear hfin hrr
  cases rr
  · go_wp2
    go_ret
    exact ⟨ret_bool (by rw [HFIN.out]; rfl), HN.out⟩
  rcases (show (M < 0) ∨ (0 ≤ M ∧ 99 < M) ∨ (0 ≤ M ∧ M ≤ 99 ∧ W < 0) ∨ (0 ≤ M ∧ M ≤ 99 ∧ 0 ≤ W ∧ 2 < W) ∨ (0 ≤ M ∧ M ≤ 99 ∧ 0 ≤ W ∧ W ≤ 2) by omega) with h | ⟨h, h'⟩ | ⟨h, h', h''⟩ | ⟨h, h', h'', h'''⟩ | ⟨h, h', h'', h'''⟩
  · go_wp2
    go_ret
    refine ⟨ret_bool ?_, HN.out⟩
    rw [HFIN.out, ← HT.out]
    unfold tailB
    rw [Bool.eq_iff_iff]
    cases a <;> simp <;> omega
  · go_wp2
    go_ret
    refine ⟨ret_bool ?_, HN.out⟩
    rw [HFIN.out, ← HT.out]
    unfold tailB
    rw [Bool.eq_iff_iff]
    cases a <;> simp <;> omega
  · go_wp2
    go_ret
    refine ⟨ret_bool ?_, HN.out⟩
    rw [HFIN.out, ← HT.out]
    unfold tailB
    rw [Bool.eq_iff_iff]
    cases a <;> simp <;> omega
  · go_wp2
    go_ret
    refine ⟨ret_bool ?_, HN.out⟩
    rw [HFIN.out, ← HT.out]
    unfold tailB
    rw [Bool.eq_iff_iff]
    cases a <;> simp <;> omega
  · obtain ⟨q0, t0⟩ : ∃ x, (W == 0) = x := ⟨_, rfl⟩
    cases q0
    · rcases (show 0 < M ∨ M = 0 by omega) with hm | hm
      · cases a
        · go_wp2
          go_ret
          refine ⟨ret_bool ?_, HN.out⟩
          rw [HFIN.out, ← HT.out]
          unfold tailB
          rw [Bool.eq_iff_iff]
          simp at t0
          simp <;> omega
        · go_wp2
          go_ret
          refine ⟨ret_bool ?_, HN.out⟩
          rw [HFIN.out, ← HT.out]
          unfold tailB
          rw [Bool.eq_iff_iff]
          simp at t0
          simp <;> omega
      · have hm' : ¬ (0 < M) := by omega
        clear hm
        go_wp2
        go_ret
        refine ⟨ret_bool ?_, HN.out⟩
        rw [HFIN.out, ← HT.out]
        unfold tailB
        rw [Bool.eq_iff_iff]
        simp at t0
        cases a <;> simp <;> omega
    · go_wp2
      go_ret
      refine ⟨ret_bool ?_, HN.out⟩
      rw [HFIN.out, ← HT.out]
      unfold tailB
      rw [Bool.eq_iff_iff]
      simp at t0
      cases a <;> simp <;> omega

theorem may_any (o : Int) (A B C M W : Int) (V n : Nat) (lib : Bool) (w : World) (hV : V < 18446744073709551616) (hn : n ≤ 9223372036854775807) : Calls Tryd.prog 65 #[.agg #[.int .i64 o, .int .i64 A, .int .i64 B, .int .i64 C, .int .u64 V, .int .i64 M, .int .i64 W], .int .i64 n, .bool lib] w fun e w' => e = .returned (.bool (mayB o A B C V M W n lib)) ∧ New w w' := by
  unfold mayB headB
  by_cases hh : (1 ≤ o ∧ o ≤ 58) ∧ ¬ (lib = true ∧ o = 22) ∧ (lib = true ∨ (o ≤ 22 ∧ M = 0))
  · rw [decide_eq_true hh, Bool.true_and]
    obtain ⟨h1, h2, h3⟩ := hh
    exact may_rest o A B C M W V n lib _ _ _ _ _ _ w hV hn h1.1 h1.2 (fun hl he => h2 ⟨hl, he⟩) (fun hl => h3.resolve_left (by rw [hl]; simp)) rfl rfl rfl rfl rfl rfl
  · rw [decide_eq_false hh, Bool.false_and]
    refine may_head o A B C M W V n lib w hV hn ?_
    cases lib <;> simp at hh ⊢ <;> omega

end Go.Proofs.YtngpcalgjaglmaaDoor
