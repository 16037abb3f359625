/- Calls on one thread of the table: End, Status, the going of a row; on both sides. -/
import Derived.Test.YtpfkfajgbaakoaaDoorTabB
namespace Go.Proofs.YtpfkfajgbaakoaaDoor
open Go.RowKit

set_option maxRecDepth 100000 in
set_option maxHeartbeats 1000000 in
theorem pend_any (b rb : Nat) (l : List TR) (h u : Nat) (w : World) (hr : PRep w b rb l)  (hh : h < 18446744073709551616) :
    Calls Tryd.prog 18 #[.pointer (some ⟨b, 0, none⟩), .int .u64 h, .int .u64 u] w fun e w' => ∃ v, e = .returned v ∧ EndP w b rb l h endE (endR u) v w' := by
  have hof := pof_any b rb l h _ hr hh
  unfold ptrAt at hof
  cases e : rowAt l h with
  | none =>
    simp only [e] at hof
    have HOF := Lib.hid hof
    have HE := Lib.hid e
    clear hof e
    go_enter Tryd.func18, Tryd.ntmps18
    go_wp2_with (first
      | (go_at_call 34; refine HOF.out.mono ?_; rintro e w' ⟨rfl, rfl⟩)
      | (go_at_call 31; refine (pfail_any _ _ (by omega) (by omega)).mono ?_; rintro e w' ⟨v, rfl, he, hn⟩))
    go_ret
    exact ⟨_, rfl, endP_none hr HE.out he hn⟩
  | some r =>
    simp only [e] at hof
    have h1 := (rowAt_some e).1
    have cst : w.cell? ⟨rb, h % 64 * 10 + 4, none⟩ = some (.int .i64 r.state) := hr.rows.row pC_len h1 4 _ rfl
    have cva : w.cell? ⟨rb, h % 64 * 10 + 6, none⟩ = some (.int .u64 r.value) := hr.rows.row pC_len h1 6 _ rfl
    have csp : w.cell? ⟨rb, h % 64 * 10 + 9, none⟩ = some (.bool r.stepping) := hr.rows.row pC_len h1 9 _ rfl
    have HOF := Lib.hid hof
    have HE := Lib.hid e
    have H1 := Lib.hid h1
    have fz := hr.rows.free
    clear hof e h1
    by_cases h4 : r.state = 4
    · have hbe : endE r = some (0, 8) := by unfold endE; rw [if_pos h4]
      have hbr : endR u r = r := by unfold endR; rw [hbe]; rfl
      have HB := Lib.hid (And.intro hbe hbr)
      have t4 : (r.state == 4) = true := by simp [h4]
      clear hbe hbr h4
      go_enter Tryd.func18, Tryd.ntmps18
      go_wp2_with (first
        | (go_at_call 34; refine HOF.out.mono ?_; rintro e w' ⟨rfl, rfl⟩)
        | (go_at_call 31; refine (pfail_any _ _ (by omega) (by omega)).mono ?_; rintro e w' ⟨v, rfl, he, hn⟩))
      go_ret
      exact ⟨_, rfl, endP_no hr HE.out HB.out.1 HB.out.2 he hn⟩
    · have hbe : endE r = none := by unfold endE; rw [if_neg h4]
      have hbr : endR u r = { r with state := 4, value := u, stepping := true } := by unfold endR; rw [hbe]; rfl
      have HB := Lib.hid (And.intro hbe hbr)
      have t4 : (r.state == 4) = false := by simp [h4]
      have hq := (List.getElem?_eq_some_iff.1 H1.out).1
      clear hbe hbr h4
      go_enter Tryd.func18, Tryd.ntmps18
      go_wp2_with (go_at_call 34; refine HOF.out.mono ?_; rintro e w' ⟨rfl, rfl⟩)
      go_ret
      refine ⟨_, rfl, endP_ok HE.out HB.out.1 ?_ ?_⟩
      · rw [HB.out.2]
        exact ((hr.put H1.out (i := 4) (r' := { r with state := 4 }) (by omega) rfl).put2 (i := 6) (r' := { r with state := 4, value := u }) hq (by omega) rfl).put2 (i := 9) hq (by omega) rfl
      · exact (setFr.trans setFr).trans setFr

set_option maxRecDepth 100000 in
set_option maxHeartbeats 1000000 in
theorem pstatus_any (b rb : Nat) (l : List TR) (h : Nat) (w : World) (hr : PRep w b rb l)  (hh : h < 18446744073709551616) :
    Calls Tryd.prog 22 #[.pointer (some ⟨b, 0, none⟩), .int .u64 h] w fun e w' => e = .returned (.int .i64 (statI l h)) ∧ w = w' := by
  have hof := pof_any b rb l h _ hr hh
  unfold ptrAt at hof
  unfold statI
  cases e : rowAt l h with
  | none =>
    simp only [e] at hof
    have HOF := Lib.hid hof
    clear hof e
    go_enter Tryd.func22, Tryd.ntmps22
    go_wp2_with (go_at_call 34; refine HOF.out.mono ?_; rintro e w' ⟨rfl, rfl⟩)
    go_ret
    exact ⟨rfl, rfl⟩
  | some r =>
    simp only [e] at hof
    have h1 := (rowAt_some e).1
    have cst : w.cell? ⟨rb, h % 64 * 10 + 4, none⟩ = some (.int .i64 r.state) := hr.rows.row pC_len h1 4 _ rfl
    have cre : w.cell? ⟨rb, h % 64 * 10 + 2, none⟩ = some (.bool r.reaped) := hr.rows.row pC_len h1 2 _ rfl
    have clo : w.cell? ⟨rb, h % 64 * 10 + 8, none⟩ = some (.bool r.loose) := hr.rows.row pC_len h1 8 _ rfl
    have cjo : w.cell? ⟨rb, h % 64 * 10 + 7, none⟩ = some (.int .u64 r.joiner) := hr.rows.row pC_len h1 7 _ rfl
    have HOF := Lib.hid hof
    clear hof e h1 hr
    have hst : statR r = if r.reaped then 0 else if r.loose then 2 else if ((r.joiner : Int) != 0) then 4 else if (r.state == 4) then 3 else 1 := by
      unfold statR
      have e1 : ((r.joiner : Int) != 0) = true ↔ r.joiner ≠ 0 := by rw [bne_iff_ne]; omega
      have e2 : (r.state == 4) = true ↔ r.state = 4 := by simp
      simp only [e1, e2]
    obtain ⟨x1, hx1⟩ : ∃ x, r.reaped = x := ⟨_, rfl⟩
    obtain ⟨x2, hx2⟩ : ∃ x, r.loose = x := ⟨_, rfl⟩
    obtain ⟨x3, hx3⟩ : ∃ x, ((r.joiner : Int) != 0) = x := ⟨_, rfl⟩
    obtain ⟨x4, hx4⟩ : ∃ x, (r.state == 4) = x := ⟨_, rfl⟩
    rw [hx1, hx2, hx3, hx4] at hst
    simp only [hst]
    rw [hx1] at cre
    rw [hx2] at clo
    clear hst hx1 hx2
    cases x1 <;> cases x2 <;> cases x3 <;> cases x4
    all_goals
      go_enter Tryd.func22, Tryd.ntmps22
      go_wp2_with (go_at_call 34; refine HOF.out.mono ?_; rintro e w' ⟨rfl, rfl⟩)
      go_ret
      exact ⟨rfl, rfl⟩

set_option maxRecDepth 100000 in
set_option maxHeartbeats 1000000 in
theorem pforget_any (b rb q : Nat) (l : List TR) (r : TR) (w : World) (hr : PRep w b rb l) (hq : l[q]? = some r) :
    Calls Tryd.prog 35 #[.pointer (some ⟨rb, q * 10, none⟩)] w fun e w' => e = .returned (.tuple #[]) ∧ PRep w' b rb (l.set q (gone r)) ∧ Fr (· = rb) w w' := by
  have fz := hr.rows.free
  have c0 := hr.rows.row pC_len hq 0 _ rfl
  rw [Nat.add_zero] at c0
  have c1 := hr.rows.row pC_len hq 1 _ rfl
  have c2 := hr.rows.row pC_len hq 2 _ rfl
  have c3 := hr.rows.row pC_len hq 3 _ rfl
  have c4 := hr.rows.row pC_len hq 4 _ rfl
  have c5 := hr.rows.row pC_len hq 5 _ rfl
  have c6 := hr.rows.row pC_len hq 6 _ rfl
  have c7 := hr.rows.row pC_len hq 7 _ rfl
  have c8 := hr.rows.row pC_len hq 8 _ rfl
  have c9 := hr.rows.row pC_len hq 9 _ rfl
  have H1 := Lib.hid hq
  have HR := Lib.hid hr
  have hlt := (List.getElem?_eq_some_iff.1 hq).1
  clear hq hr
  go_enter Tryd.func35, Tryd.ntmps35
  go_wp2_with fail
  go_end0
  have e0 := HR.out.put (i := 1) (r' := { r with taken := false }) (v := .bool false) H1.out (by omega) rfl
  have e1 := e0.put2 (i := 2) (r' := { r with taken := false, reaped := false }) (v := .bool false) hlt (by omega) rfl
  have e2 := e1.put2 (i := 3) (r' := { r with taken := false, reaped := false, id := 0 }) (v := .int .u64 0) hlt (by omega) rfl
  have e3 := e2.put2 (i := 4) (r' := { r with taken := false, reaped := false, id := 0, state := 0 }) (v := .int .i64 0) hlt (by omega) rfl
  have e4 := e3.put2 (i := 5) (r' := { r with taken := false, reaped := false, id := 0, state := 0, home := 0 }) (v := .int .u64 0) hlt (by omega) rfl
  have e5 := e4.put2 (i := 6) (r' := { r with taken := false, reaped := false, id := 0, state := 0, home := 0, value := 0 }) (v := .int .u64 0) hlt (by omega) rfl
  have e6 := e5.put2 (i := 7) (r' := { r with taken := false, reaped := false, id := 0, state := 0, home := 0, value := 0, joiner := 0 }) (v := .int .u64 0) hlt (by omega) rfl
  have e7 := e6.put2 (i := 8) (r' := { r with taken := false, reaped := false, id := 0, state := 0, home := 0, value := 0, joiner := 0, loose := false }) (v := .bool false) hlt (by omega) rfl
  have e8 := e7.put2 (i := 9) (r' := gone r) (v := .bool false) hlt (by omega) rfl
  exact ⟨rfl, e8, ((((((((setFr.trans setFr).trans setFr).trans setFr).trans setFr).trans setFr).trans setFr).trans setFr).trans setFr)⟩
set_option maxRecDepth 100000 in
set_option maxHeartbeats 1000000 in
theorem dend_any (b rb : Nat) (l : List TR) (h u : Nat) (w : World) (hr : DRep w b rb l) (hpl : Placed l) (hh : h < 18446744073709551616) :
    Calls Tryd.prog 40 #[.pointer (some ⟨b, 0, none⟩), .int .u64 h, .int .u64 u] w fun e w' => ∃ v, e = .returned v ∧ EndD w b rb l h endE (endR u) v w' := by
  have hof := rfind_any b rb l h _ hr hpl hh
  unfold ptrAt at hof
  cases e : rowAt l h with
  | none =>
    simp only [e] at hof
    have HOF := Lib.hid hof
    have HE := Lib.hid e
    clear hof e
    go_enter Tryd.func40, Tryd.ntmps40
    go_wp2_with (first
      | (go_at_call 44; refine HOF.out.mono ?_; rintro e w' ⟨rfl, rfl⟩)
      | (go_at_call 50; refine (dfail_any _ _ (by omega) (by omega)).mono ?_; rintro e w' ⟨v, rfl, he, hn⟩))
    go_ret
    exact ⟨_, rfl, endD_none hr HE.out he hn⟩
  | some r =>
    simp only [e] at hof
    have h1 := (rowAt_some e).1
    have cst : w.cell? ⟨rb, h % 64 * 9 + 1, none⟩ = some (.int .i64 r.state) := hr.rows.row dC_len h1 1 _ rfl
    have cva : w.cell? ⟨rb, h % 64 * 9 + 3, none⟩ = some (.int .u64 r.value) := hr.rows.row dC_len h1 3 _ rfl
    have csp : w.cell? ⟨rb, h % 64 * 9 + 6, none⟩ = some (.bool r.stepping) := hr.rows.row dC_len h1 6 _ rfl
    have HOF := Lib.hid hof
    have HE := Lib.hid e
    have H1 := Lib.hid h1
    have fz := hr.rows.free
    clear hof e h1
    by_cases h4 : r.state = 4
    · have hbe : endE r = some (0, 8) := by unfold endE; rw [if_pos h4]
      have hbr : endR u r = r := by unfold endR; rw [hbe]; rfl
      have HB := Lib.hid (And.intro hbe hbr)
      have t4 : (r.state == 4) = true := by simp [h4]
      clear hbe hbr h4
      go_enter Tryd.func40, Tryd.ntmps40
      go_wp2_with (first
        | (go_at_call 44; refine HOF.out.mono ?_; rintro e w' ⟨rfl, rfl⟩)
        | (go_at_call 50; refine (dfail_any _ _ (by omega) (by omega)).mono ?_; rintro e w' ⟨v, rfl, he, hn⟩))
      go_ret
      exact ⟨_, rfl, endD_no hr HE.out HB.out.1 HB.out.2 he hn⟩
    · have hbe : endE r = none := by unfold endE; rw [if_neg h4]
      have hbr : endR u r = { r with state := 4, value := u, stepping := true } := by unfold endR; rw [hbe]; rfl
      have HB := Lib.hid (And.intro hbe hbr)
      have t4 : (r.state == 4) = false := by simp [h4]
      have hq := (List.getElem?_eq_some_iff.1 H1.out).1
      clear hbe hbr h4
      go_enter Tryd.func40, Tryd.ntmps40
      go_wp2_with (go_at_call 44; refine HOF.out.mono ?_; rintro e w' ⟨rfl, rfl⟩)
      go_ret
      refine ⟨_, rfl, endD_ok HE.out HB.out.1 ?_ ?_⟩
      · rw [HB.out.2]
        exact ((hr.put H1.out (i := 1) (r' := { r with state := 4 }) (by omega) rfl).put2 (i := 3) (r' := { r with state := 4, value := u }) hq (by omega) rfl).put2 (i := 6) hq (by omega) rfl
      · exact (setFr.trans setFr).trans setFr

set_option maxRecDepth 100000 in
set_option maxHeartbeats 1000000 in
theorem dstatus_any (b rb : Nat) (l : List TR) (h : Nat) (w : World) (hr : DRep w b rb l) (hpl : Placed l) (hh : h < 18446744073709551616) :
    Calls Tryd.prog 29 #[.pointer (some ⟨b, 0, none⟩), .int .u64 h] w fun e w' => e = .returned (.int .i64 (statI l h)) ∧ w = w' := by
  have hof := rfind_any b rb l h _ hr hpl hh
  unfold ptrAt at hof
  unfold statI
  cases e : rowAt l h with
  | none =>
    simp only [e] at hof
    have HOF := Lib.hid hof
    clear hof e
    go_enter Tryd.func29, Tryd.ntmps29
    go_wp2_with (go_at_call 44; refine HOF.out.mono ?_; rintro e w' ⟨rfl, rfl⟩)
    go_ret
    exact ⟨rfl, rfl⟩
  | some r =>
    simp only [e] at hof
    have h1 := (rowAt_some e).1
    have cst : w.cell? ⟨rb, h % 64 * 9 + 1, none⟩ = some (.int .i64 r.state) := hr.rows.row dC_len h1 1 _ rfl
    have cre : w.cell? ⟨rb, h % 64 * 9 + 7, none⟩ = some (.bool r.reaped) := hr.rows.row dC_len h1 7 _ rfl
    have clo : w.cell? ⟨rb, h % 64 * 9 + 5, none⟩ = some (.bool r.loose) := hr.rows.row dC_len h1 5 _ rfl
    have cjo : w.cell? ⟨rb, h % 64 * 9 + 4, none⟩ = some (.int .u64 r.joiner) := hr.rows.row dC_len h1 4 _ rfl
    have HOF := Lib.hid hof
    clear hof e h1 hr
    have hst : statR r = if r.reaped then 0 else if r.loose then 2 else if ((r.joiner : Int) != 0) then 4 else if (r.state == 4) then 3 else 1 := by
      unfold statR
      have e1 : ((r.joiner : Int) != 0) = true ↔ r.joiner ≠ 0 := by rw [bne_iff_ne]; omega
      have e2 : (r.state == 4) = true ↔ r.state = 4 := by simp
      simp only [e1, e2]
    obtain ⟨x1, hx1⟩ : ∃ x, r.reaped = x := ⟨_, rfl⟩
    obtain ⟨x2, hx2⟩ : ∃ x, r.loose = x := ⟨_, rfl⟩
    obtain ⟨x3, hx3⟩ : ∃ x, ((r.joiner : Int) != 0) = x := ⟨_, rfl⟩
    obtain ⟨x4, hx4⟩ : ∃ x, (r.state == 4) = x := ⟨_, rfl⟩
    rw [hx1, hx2, hx3, hx4] at hst
    simp only [hst]
    rw [hx1] at cre
    rw [hx2] at clo
    clear hst hx1 hx2
    cases x1 <;> cases x2 <;> cases x3 <;> cases x4
    all_goals
      go_enter Tryd.func29, Tryd.ntmps29
      go_wp2_with (go_at_call 44; refine HOF.out.mono ?_; rintro e w' ⟨rfl, rfl⟩)
      go_ret
      exact ⟨rfl, rfl⟩

set_option maxRecDepth 100000 in
set_option maxHeartbeats 1000000 in
theorem dforget_any (b rb q : Nat) (l : List TR) (r : TR) (w : World) (hr : DRep w b rb l) (hq : l[q]? = some r) :
    Calls Tryd.prog 51 #[.pointer (some ⟨rb, q * 9, none⟩)] w fun e w' => e = .returned (.tuple #[]) ∧ DRep w' b rb (l.set q (gone r)) ∧ Fr (· = rb) w w' := by
  have fz := hr.rows.free
  have c0 := hr.rows.row dC_len hq 0 _ rfl
  rw [Nat.add_zero] at c0
  have c1 := hr.rows.row dC_len hq 1 _ rfl
  have c2 := hr.rows.row dC_len hq 2 _ rfl
  have c3 := hr.rows.row dC_len hq 3 _ rfl
  have c4 := hr.rows.row dC_len hq 4 _ rfl
  have c5 := hr.rows.row dC_len hq 5 _ rfl
  have c6 := hr.rows.row dC_len hq 6 _ rfl
  have c7 := hr.rows.row dC_len hq 7 _ rfl
  have c8 := hr.rows.row dC_len hq 8 _ rfl
  skip
  have H1 := Lib.hid hq
  have HR := Lib.hid hr
  have hlt := (List.getElem?_eq_some_iff.1 hq).1
  clear hq hr
  go_enter Tryd.func51, Tryd.ntmps51
  go_wp2_with fail
  go_end0
  have e0 := HR.out.put (i := 0) (r' := { r with id := 0 }) (v := .int .u64 0) H1.out (by omega) rfl
  have e1 := e0.put2 (i := 1) (r' := { r with id := 0, state := 0 }) (v := .int .i64 0) hlt (by omega) rfl
  have e2 := e1.put2 (i := 2) (r' := { r with id := 0, state := 0, home := 0 }) (v := .int .u64 0) hlt (by omega) rfl
  have e3 := e2.put2 (i := 3) (r' := { r with id := 0, state := 0, home := 0, value := 0 }) (v := .int .u64 0) hlt (by omega) rfl
  have e4 := e3.put2 (i := 4) (r' := { r with id := 0, state := 0, home := 0, value := 0, joiner := 0 }) (v := .int .u64 0) hlt (by omega) rfl
  have e5 := e4.put2 (i := 5) (r' := { r with id := 0, state := 0, home := 0, value := 0, joiner := 0, loose := false }) (v := .bool false) hlt (by omega) rfl
  have e6 := e5.put2 (i := 6) (r' := { r with id := 0, state := 0, home := 0, value := 0, joiner := 0, loose := false, stepping := false }) (v := .bool false) hlt (by omega) rfl
  have e7 := e6.put2 (i := 7) (r' := gone r) (v := .bool false) hlt (by omega) rfl
  exact ⟨rfl, e7, (((((((setFr.trans setFr).trans setFr).trans setFr).trans setFr).trans setFr).trans setFr).trans setFr)⟩

end Go.Proofs.YtpfkfajgbaakoaaDoor
