/- Reap and Look of the table; on both sides. -/
import Derived.Test.YtpfkfajgbaakoaaDoorTabD
namespace Go.Proofs.YtpfkfajgbaakoaaDoor
open Go.RowKit

theorem threadSize : (Tryd.prog.info? 48).map (·.size) = some 7 := by kernel_rfl

set_option maxRecDepth 100000 in
set_option maxHeartbeats 2000000 in
theorem preap_any (b rb : Nat) (l : List TR) (h : Nat) (w : World) (hr : PRep w b rb l)  (hh : h < 18446744073709551616) :
    Calls Tryd.prog 17 #[.pointer (some ⟨b, 0, none⟩), .int .u64 h] w fun e w' => ∃ v, e = .returned (.tuple #[.int .u64 (reapV l h).1, .int .u64 (reapV l h).2.1, .bool (reapV l h).2.2, v]) ∧ EndP w b rb l h reapE reapR v w' := by
  have hof := pof_any b rb l h _ hr hh
  unfold ptrAt at hof
  unfold reapV
  cases e : rowAt l h with
  | none =>
    simp only [e] at hof
    have HOF := Lib.hid hof
    have HE := Lib.hid e
    clear hof e
    go_enter Tryd.func17, Tryd.ntmps17
    go_wp2_with (first
      | (go_at_call 34; refine HOF.out.mono ?_; rintro e w' ⟨rfl, rfl⟩)
      | (go_at_call 31; refine (pfail_any _ _ (by omega) (by omega)).mono ?_; rintro e w' ⟨v, rfl, he, hn⟩))
    refine bodyPost_ret (results_tmp4 rfl _ _ _) rfl ?_
    exact ⟨_, rfl, endP_none hr HE.out he hn⟩
  | some r =>
    simp only [e] at hof
    have h1 := (rowAt_some e).1
    have clo : w.cell? ⟨rb, h % 64 * 10 + 8, none⟩ = some (.bool r.loose) := hr.rows.row pC_len h1 8 _ rfl
    have cst : w.cell? ⟨rb, h % 64 * 10 + 4, none⟩ = some (.int .i64 r.state) := hr.rows.row pC_len h1 4 _ rfl
    have csp : w.cell? ⟨rb, h % 64 * 10 + 9, none⟩ = some (.bool r.stepping) := hr.rows.row pC_len h1 9 _ rfl
    have cho : w.cell? ⟨rb, h % 64 * 10 + 5, none⟩ = some (.int .u64 r.home) := hr.rows.row pC_len h1 5 _ rfl
    have cva : w.cell? ⟨rb, h % 64 * 10 + 6, none⟩ = some (.int .u64 r.value) := hr.rows.row pC_len h1 6 _ rfl
    have cre : w.cell? ⟨rb, h % 64 * 10 + 2, none⟩ = some (.bool r.reaped) := hr.rows.row pC_len h1 2 _ rfl
    have HOF := Lib.hid hof
    have HE := Lib.hid e
    have H1 := Lib.hid h1
    have fz := hr.rows.free
    have hq := (List.getElem?_eq_some_iff.1 h1).1
    clear hof e h1
    obtain ⟨x, hx⟩ : ∃ x, (r.state != 4) = x := ⟨_, rfl⟩
    obtain ⟨y, hy⟩ : ∃ y, r.loose = y := ⟨_, rfl⟩
    obtain ⟨z, hz⟩ : ∃ z, r.reaped = z := ⟨_, rfl⟩
    rw [hy] at clo
    rw [hz] at cre
    by_cases hj : x = true ∨ y = true ∨ z = true
    · have hbe : reapE r = some (0, 8) := by
        unfold reapE; rw [if_pos]
        rw [hy, hz]
        rcases hj with rfl | hj | hj
        · left; simpa using hx
        · exact .inr (.inl hj)
        · exact .inr (.inr hj)
      have hbr : reapR r = r := by unfold reapR; rw [hbe]; rfl
      have HB := Lib.hid (And.intro hbe hbr)
      simp only [hbe, Option.isSome_some, if_true]
      clear hbe hbr hy hz
      cases x <;> cases y <;> cases z
      all_goals first | (exfalso; revert hj; simp; done) | skip
      all_goals
        clear hj
        go_enter Tryd.func17, Tryd.ntmps17
        go_wp2_with (first
          | (go_at_call 34; refine HOF.out.mono ?_; rintro e w' ⟨rfl, rfl⟩)
          | (go_at_call 31; refine (pfail_any _ _ (by omega) (by omega)).mono ?_; rintro e w' ⟨v, rfl, he, hn⟩))
        refine bodyPost_ret (results_tmp4 rfl _ _ _) rfl ?_
        exact ⟨_, rfl, endP_no hr HE.out HB.out.1 HB.out.2 he hn⟩
    · obtain ⟨rfl, rfl, rfl⟩ : x = false ∧ y = false ∧ z = false := by revert hj; cases x <;> cases y <;> cases z <;> simp
      have h4 : r.state = 4 := by simpa using hx
      have hbe : reapE r = none := by unfold reapE; rw [if_neg (by simp [h4, hy, hz])]
      simp only [hbe, Option.isSome_none, Bool.false_eq_true, if_false]
      have HR := Lib.hid hr
      cases hu : r.stepping with
      | true =>
        rw [hu] at csp
        have hbr : reapR r = { r with reaped := true } := by unfold reapR; rw [hbe]; simp [hu]
        have HB := Lib.hid (And.intro hbe hbr)
        clear hbe hbr hu hy hz hj h4 hr
        go_enter Tryd.func17, Tryd.ntmps17
        go_wp2_with (go_at_call 34; refine HOF.out.mono ?_; rintro e w' ⟨rfl, rfl⟩)
        go_quiet (fail)
        have f0 : New w (w.drewN nq) := (Fr.refl _ _).drewN nq
        have d2 : (w.drewN nq).cell? ⟨rb, h % 64 * 10 + 2, none⟩ = some (.bool false) := cre
        have d3 : (w.drewN nq).cell? ⟨rb, h % 64 * 10 + 9, none⟩ = some (.bool true) := csp
        have fz2 : ∀ j, (w.drewN nq).frozen? ⟨rb, j, none⟩ = false := fz
        have HF0 := Lib.hid f0
        generalize w.drewN nq = w0 at d2 d3 fz2 HF0 ⊢
        clear cst csp cho cva cre clo fz f0
        go_wp2
        refine bodyPost_ret (results_tmp4 rfl _ _ _) rfl ?_
        exact ⟨_, rfl, endP_ok HE.out HB.out.1 (by rw [HB.out.2]; exact (HR.out.new HF0.out).put (i := 2) H1.out (by omega) rfl) ((HF0.out.mono (fun _ _ h => h.elim)).trans setFr)⟩
      | false =>
        rw [hu] at csp
        have hbr : reapR r = gone r := by unfold reapR; rw [hbe]; simp [hu]
        have HB := Lib.hid (And.intro hbe hbr)
        clear hbe hbr hu hy hz hj h4 hr
        go_enter Tryd.func17, Tryd.ntmps17
        go_wp2_with (go_at_call 34; refine HOF.out.mono ?_; rintro e w' ⟨rfl, rfl⟩)
        go_quiet (fail)
        have f0 : New w (w.drewN nq) := (Fr.refl _ _).drewN nq
        have d2 : (w.drewN nq).cell? ⟨rb, h % 64 * 10 + 2, none⟩ = some (.bool false) := cre
        have d3 : (w.drewN nq).cell? ⟨rb, h % 64 * 10 + 9, none⟩ = some (.bool false) := csp
        have fz2 : ∀ j, (w.drewN nq).frozen? ⟨rb, j, none⟩ = false := fz
        have HF0 := Lib.hid f0
        have HR0 := Lib.hid (HR.out.new f0)
        generalize w.drewN nq = w0 at d2 d3 fz2 HF0 HR0 ⊢
        have hpt := Lib.hid (HR0.out.put (i := 2) (r' := { r with reaped := true }) (v := .bool true) H1.out (by omega) rfl)
        have H2 : (l.set (h % 64) { r with reaped := true })[h % 64]? = some { r with reaped := true } := by simp [hq]
        have HFP := Lib.hid (pforget_any b rb (h % 64) _ _ _ hpt.out H2)
        have HFD := Lib.hid (pforget_any b rb (h % 64) _ _ _ HR0.out H1.out)
        clear cst csp cho cva cre clo fz f0 H2
        go_wp2_with (go_at_call 35; refine HFP.out.mono ?_; rintro e w' ⟨rfl, hr2, hf2⟩)
        refine bodyPost_ret (results_tmp4 rfl _ _ _) rfl ?_
        rw [List.set_set] at hr2
        exact ⟨_, rfl, endP_ok HE.out HB.out.1 (by rw [HB.out.2]; exact hr2) ((HF0.out.mono (fun _ _ h => h.elim)).trans (setFr2 hf2))⟩

set_option maxRecDepth 100000 in
set_option maxHeartbeats 1000000 in
theorem plook_any (b rb : Nat) (l : List TR) (h : Nat) (w : World) (hr : PRep w b rb l)  (hh : h < 18446744073709551616) :
    Calls Tryd.prog 21 #[.pointer (some ⟨b, 0, none⟩), .int .u64 h] w fun e w' => e = .returned (.tuple #[.agg (lookT l h).toArray, .bool (lookB l h)]) ∧ New w w' := by
  have hof0 : ∀ w', New w w' → Calls Tryd.prog 34 #[.pointer (some ⟨b, 0, none⟩), .int .u64 h] w' fun e w'' => e = .returned (ptrAt l h rb 10) ∧ w' = w'' := fun w' f => by
    have hr := hr.new f
    exact pof_any b rb l h _ hr hh
  unfold ptrAt at hof0
  unfold lookT lookB
  cases e : rowAt l h with
  | none =>
    simp only [e] at hof0
    have HOF := Lib.hid hof0
    clear hof0 e hr
    go_enter Tryd.func21, Tryd.ntmps21
    go_wp2_with (go_at_call 34; refine (HOF.out _ ((Fr.refl _ _).alloc _)).mono ?_; rintro e w' ⟨rfl, rfl⟩)
    refine bodyPost_ret (ret_cell2 rfl _ _ w.heap.size _ _ _ _ rfl (block_alloc_new _ _) Tryd.underlying48 rfl threadSize) rfl ?_
    exact ⟨rfl, (Fr.refl _ _).alloc _⟩
  | some r =>
    simp only [e] at hof0
    have h1 := (rowAt_some e).1
    have c0 : w.cell? ⟨rb, h % 64 * 10 + 3, none⟩ = some (.int .u64 r.id) := hr.rows.row pC_len h1 3 _ rfl
    have c1 : w.cell? ⟨rb, h % 64 * 10 + 4, none⟩ = some (.int .i64 r.state) := hr.rows.row pC_len h1 4 _ rfl
    have c2 : w.cell? ⟨rb, h % 64 * 10 + 5, none⟩ = some (.int .u64 r.home) := hr.rows.row pC_len h1 5 _ rfl
    have c3 : w.cell? ⟨rb, h % 64 * 10 + 6, none⟩ = some (.int .u64 r.value) := hr.rows.row pC_len h1 6 _ rfl
    have c4 : w.cell? ⟨rb, h % 64 * 10 + 7, none⟩ = some (.int .u64 r.joiner) := hr.rows.row pC_len h1 7 _ rfl
    have c5 : w.cell? ⟨rb, h % 64 * 10 + 8, none⟩ = some (.bool r.loose) := hr.rows.row pC_len h1 8 _ rfl
    have c6 : w.cell? ⟨rb, h % 64 * 10 + 9, none⟩ = some (.bool r.stepping) := hr.rows.row pC_len h1 9 _ rfl
    have lb := hr.rows.lt
    have HOF := Lib.hid hof0
    clear hof0 e h1 hr
    go_enter Tryd.func21, Tryd.ntmps21
    go_wp2_with (go_at_call 34; refine (HOF.out _ ((Fr.refl _ _).alloc _)).mono ?_; rintro e w' ⟨rfl, rfl⟩)
    refine bodyPost_ret (ret_cell2 rfl _ _ w.heap.size _ _ _ _ rfl (block_alloc_new _ _) Tryd.underlying48 rfl threadSize) rfl ?_
    exact ⟨rfl, (Fr.refl _ _).alloc _⟩
set_option maxRecDepth 100000 in
set_option maxHeartbeats 2000000 in
theorem dreap_any (b rb : Nat) (l : List TR) (h : Nat) (w : World) (hr : DRep w b rb l) (hpl : Placed l) (hh : h < 18446744073709551616) :
    Calls Tryd.prog 42 #[.pointer (some ⟨b, 0, none⟩), .int .u64 h] w fun e w' => ∃ v, e = .returned (.tuple #[.int .u64 (reapV l h).1, .int .u64 (reapV l h).2.1, .bool (reapV l h).2.2, v]) ∧ EndD w b rb l h reapE reapR v w' := by
  have hof := rfind_any b rb l h _ hr hpl hh
  unfold ptrAt at hof
  unfold reapV
  cases e : rowAt l h with
  | none =>
    simp only [e] at hof
    have HOF := Lib.hid hof
    have HE := Lib.hid e
    clear hof e
    go_enter Tryd.func42, Tryd.ntmps42
    go_wp2_with (first
      | (go_at_call 44; refine HOF.out.mono ?_; rintro e w' ⟨rfl, rfl⟩)
      | (go_at_call 50; refine (dfail_any _ _ (by omega) (by omega)).mono ?_; rintro e w' ⟨v, rfl, he, hn⟩))
    refine bodyPost_ret (results_tmp4 rfl _ _ _) rfl ?_
    exact ⟨_, rfl, endD_none hr HE.out he hn⟩
  | some r =>
    simp only [e] at hof
    have h1 := (rowAt_some e).1
    have clo : w.cell? ⟨rb, h % 64 * 9 + 5, none⟩ = some (.bool r.loose) := hr.rows.row dC_len h1 5 _ rfl
    have cst : w.cell? ⟨rb, h % 64 * 9 + 1, none⟩ = some (.int .i64 r.state) := hr.rows.row dC_len h1 1 _ rfl
    have csp : w.cell? ⟨rb, h % 64 * 9 + 6, none⟩ = some (.bool r.stepping) := hr.rows.row dC_len h1 6 _ rfl
    have cho : w.cell? ⟨rb, h % 64 * 9 + 2, none⟩ = some (.int .u64 r.home) := hr.rows.row dC_len h1 2 _ rfl
    have cva : w.cell? ⟨rb, h % 64 * 9 + 3, none⟩ = some (.int .u64 r.value) := hr.rows.row dC_len h1 3 _ rfl
    have cre : w.cell? ⟨rb, h % 64 * 9 + 7, none⟩ = some (.bool r.reaped) := hr.rows.row dC_len h1 7 _ rfl
    have HOF := Lib.hid hof
    have HE := Lib.hid e
    have H1 := Lib.hid h1
    have fz := hr.rows.free
    have hq := (List.getElem?_eq_some_iff.1 h1).1
    clear hof e h1
    obtain ⟨x, hx⟩ : ∃ x, (r.state != 4) = x := ⟨_, rfl⟩
    obtain ⟨y, hy⟩ : ∃ y, r.loose = y := ⟨_, rfl⟩
    obtain ⟨z, hz⟩ : ∃ z, r.reaped = z := ⟨_, rfl⟩
    rw [hy] at clo
    rw [hz] at cre
    by_cases hj : x = true ∨ y = true ∨ z = true
    · have hbe : reapE r = some (0, 8) := by
        unfold reapE; rw [if_pos]
        rw [hy, hz]
        rcases hj with rfl | hj | hj
        · left; simpa using hx
        · exact .inr (.inl hj)
        · exact .inr (.inr hj)
      have hbr : reapR r = r := by unfold reapR; rw [hbe]; rfl
      have HB := Lib.hid (And.intro hbe hbr)
      simp only [hbe, Option.isSome_some, if_true]
      clear hbe hbr hy hz
      cases x <;> cases y <;> cases z
      all_goals first | (exfalso; revert hj; simp; done) | skip
      all_goals
        clear hj
        go_enter Tryd.func42, Tryd.ntmps42
        go_wp2_with (first
          | (go_at_call 44; refine HOF.out.mono ?_; rintro e w' ⟨rfl, rfl⟩)
          | (go_at_call 50; refine (dfail_any _ _ (by omega) (by omega)).mono ?_; rintro e w' ⟨v, rfl, he, hn⟩))
        refine bodyPost_ret (results_tmp4 rfl _ _ _) rfl ?_
        exact ⟨_, rfl, endD_no hr HE.out HB.out.1 HB.out.2 he hn⟩
    · obtain ⟨rfl, rfl, rfl⟩ : x = false ∧ y = false ∧ z = false := by revert hj; cases x <;> cases y <;> cases z <;> simp
      have h4 : r.state = 4 := by simpa using hx
      have hbe : reapE r = none := by unfold reapE; rw [if_neg (by simp [h4, hy, hz])]
      simp only [hbe, Option.isSome_none, Bool.false_eq_true, if_false]
      have HR := Lib.hid hr
      cases hu : r.stepping with
      | true =>
        rw [hu] at csp
        have hbr : reapR r = { r with reaped := true } := by unfold reapR; rw [hbe]; simp [hu]
        have HB := Lib.hid (And.intro hbe hbr)
        clear hbe hbr hu hy hz hj h4 hr
        go_enter Tryd.func42, Tryd.ntmps42
        go_wp2_with (go_at_call 44; refine HOF.out.mono ?_; rintro e w' ⟨rfl, rfl⟩)
        go_quiet (fail)
        have f0 : New w (w.drewN nq) := (Fr.refl _ _).drewN nq
        have d2 : (w.drewN nq).cell? ⟨rb, h % 64 * 9 + 7, none⟩ = some (.bool false) := cre
        have d3 : (w.drewN nq).cell? ⟨rb, h % 64 * 9 + 6, none⟩ = some (.bool true) := csp
        have fz2 : ∀ j, (w.drewN nq).frozen? ⟨rb, j, none⟩ = false := fz
        have HF0 := Lib.hid f0
        generalize w.drewN nq = w0 at d2 d3 fz2 HF0 ⊢
        clear cst csp cho cva cre clo fz f0
        go_wp2
        refine bodyPost_ret (results_tmp4 rfl _ _ _) rfl ?_
        exact ⟨_, rfl, endD_ok HE.out HB.out.1 (by rw [HB.out.2]; exact (HR.out.new HF0.out).put (i := 7) H1.out (by omega) rfl) ((HF0.out.mono (fun _ _ h => h.elim)).trans setFr)⟩
      | false =>
        rw [hu] at csp
        have hbr : reapR r = gone r := by unfold reapR; rw [hbe]; simp [hu]
        have HB := Lib.hid (And.intro hbe hbr)
        clear hbe hbr hu hy hz hj h4 hr
        go_enter Tryd.func42, Tryd.ntmps42
        go_wp2_with (go_at_call 44; refine HOF.out.mono ?_; rintro e w' ⟨rfl, rfl⟩)
        go_quiet (fail)
        have f0 : New w (w.drewN nq) := (Fr.refl _ _).drewN nq
        have d2 : (w.drewN nq).cell? ⟨rb, h % 64 * 9 + 7, none⟩ = some (.bool false) := cre
        have d3 : (w.drewN nq).cell? ⟨rb, h % 64 * 9 + 6, none⟩ = some (.bool false) := csp
        have fz2 : ∀ j, (w.drewN nq).frozen? ⟨rb, j, none⟩ = false := fz
        have HF0 := Lib.hid f0
        have HR0 := Lib.hid (HR.out.new f0)
        generalize w.drewN nq = w0 at d2 d3 fz2 HF0 HR0 ⊢
        have hpt := Lib.hid (HR0.out.put (i := 7) (r' := { r with reaped := true }) (v := .bool true) H1.out (by omega) rfl)
        have H2 : (l.set (h % 64) { r with reaped := true })[h % 64]? = some { r with reaped := true } := by simp [hq]
        have HFP := Lib.hid (dforget_any b rb (h % 64) _ _ _ hpt.out H2)
        have HFD := Lib.hid (dforget_any b rb (h % 64) _ _ _ HR0.out H1.out)
        clear cst csp cho cva cre clo fz f0 H2
        go_wp2_with (go_at_call 51; refine HFD.out.mono ?_; rintro e w' ⟨rfl, hr2, hf2⟩)
        refine bodyPost_ret (results_tmp4 rfl _ _ _) rfl ?_
        exact ⟨_, rfl, endD_ok HE.out HB.out.1 (by rw [HB.out.2]; exact hr2) ((HF0.out.mono (fun _ _ h => h.elim)).trans hf2)⟩

set_option maxRecDepth 100000 in
set_option maxHeartbeats 1000000 in
theorem dlook_any (b rb : Nat) (l : List TR) (h : Nat) (w : World) (hr : DRep w b rb l) (hpl : Placed l) (hh : h < 18446744073709551616) :
    Calls Tryd.prog 30 #[.pointer (some ⟨b, 0, none⟩), .int .u64 h] w fun e w' => e = .returned (.tuple #[.agg (lookT l h).toArray, .bool (lookB l h)]) ∧ New w w' := by
  have hof0 : ∀ w', New w w' → Calls Tryd.prog 44 #[.pointer (some ⟨b, 0, none⟩), .int .u64 h] w' fun e w'' => e = .returned (ptrAt l h rb 9) ∧ w' = w'' := fun w' f => by
    have hr := hr.new f
    exact rfind_any b rb l h _ hr hpl hh
  unfold ptrAt at hof0
  unfold lookT lookB
  cases e : rowAt l h with
  | none =>
    simp only [e] at hof0
    have HOF := Lib.hid hof0
    clear hof0 e hr
    go_enter Tryd.func30, Tryd.ntmps30
    go_wp2_with (go_at_call 44; refine (HOF.out _ ((Fr.refl _ _).alloc _)).mono ?_; rintro e w' ⟨rfl, rfl⟩)
    refine bodyPost_ret (ret_cell2 rfl _ _ w.heap.size _ _ _ _ rfl (block_alloc_new _ _) Tryd.underlying48 rfl threadSize) rfl ?_
    exact ⟨rfl, (Fr.refl _ _).alloc _⟩
  | some r =>
    simp only [e] at hof0
    have h1 := (rowAt_some e).1
    have c0 : w.cell? ⟨rb, h % 64 * 9, none⟩ = some (.int .u64 r.id) := hr.rows.row dC_len h1 0 _ rfl
    have c1 : w.cell? ⟨rb, h % 64 * 9 + 1, none⟩ = some (.int .i64 r.state) := hr.rows.row dC_len h1 1 _ rfl
    have c2 : w.cell? ⟨rb, h % 64 * 9 + 2, none⟩ = some (.int .u64 r.home) := hr.rows.row dC_len h1 2 _ rfl
    have c3 : w.cell? ⟨rb, h % 64 * 9 + 3, none⟩ = some (.int .u64 r.value) := hr.rows.row dC_len h1 3 _ rfl
    have c4 : w.cell? ⟨rb, h % 64 * 9 + 4, none⟩ = some (.int .u64 r.joiner) := hr.rows.row dC_len h1 4 _ rfl
    have c5 : w.cell? ⟨rb, h % 64 * 9 + 5, none⟩ = some (.bool r.loose) := hr.rows.row dC_len h1 5 _ rfl
    have c6 : w.cell? ⟨rb, h % 64 * 9 + 6, none⟩ = some (.bool r.stepping) := hr.rows.row dC_len h1 6 _ rfl
    have lb := hr.rows.lt
    have HOF := Lib.hid hof0
    clear hof0 e h1 hr
    go_enter Tryd.func30, Tryd.ntmps30
    go_wp2_with (go_at_call 44; refine (HOF.out _ ((Fr.refl _ _).alloc _)).mono ?_; rintro e w' ⟨rfl, rfl⟩)
    refine bodyPost_ret (ret_cell2 rfl _ _ w.heap.size _ _ _ _ rfl (block_alloc_new _ _) Tryd.underlying48 rfl threadSize) rfl ?_
    exact ⟨rfl, (Fr.refl _ _).alloc _⟩

end Go.Proofs.YtpfkfajgbaakoaaDoor
