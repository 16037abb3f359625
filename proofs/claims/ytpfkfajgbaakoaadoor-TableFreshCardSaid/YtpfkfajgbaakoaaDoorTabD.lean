/- Calls on one thread of the table: Loose, Leave, Reap, Look; on both sides. -/
import Derived.Test.YtpfkfajgbaakoaaDoorTabC
import Derived.Test.YtpfkfajgbaakoaaDoorDocsB
import Derived.BigQuiet
import Derived.Deep.QuietTactic
namespace Go.Proofs.YtpfkfajgbaakoaaDoor
open Go.RowKit

theorem results_tmp4 {fn : Func} {t u v x : Tmp} (h : fn.results = #[.tmp t, .tmp u, .tmp v, .tmp x]) (tmps : Array Value) (P : Program) (w : World) :
    (results fn tmps).run P w = .ok (.tuple #[tmps.getD t undef, tmps.getD u undef, tmps.getD v undef, tmps.getD x undef]) w := by
  simp [results, h]
theorem setFr2 {w w' : World} {rb o : Nat} {v : Value} (f : Fr (· = rb) (w.setCell ⟨rb, o, none⟩ v) w') : Fr (· = rb) w w' := setFr.trans f

set_option maxRecDepth 100000 in
set_option maxHeartbeats 1000000 in
theorem ploose_any (b rb : Nat) (l : List TR) (h : Nat) (w : World) (hr : PRep w b rb l)  (hh : h < 18446744073709551616) :
    Calls Tryd.prog 16 #[.pointer (some ⟨b, 0, none⟩), .int .u64 h] w fun e w' => ∃ v, e = .returned v ∧ EndP w b rb l h looseE looseR v w' := by
  have hof := pof_any b rb l h _ hr hh
  unfold ptrAt at hof
  cases e : rowAt l h with
  | none =>
    simp only [e] at hof
    have HOF := Lib.hid hof
    have HE := Lib.hid e
    clear hof e
    go_enter Tryd.func16, Tryd.ntmps16
    go_wp2_with (first
      | (go_at_call 34; refine HOF.out.mono ?_; rintro e w' ⟨rfl, rfl⟩)
      | (go_at_call 31; refine (pfail_any _ _ (by omega) (by omega)).mono ?_; rintro e w' ⟨v, rfl, he, hn⟩))
    go_ret
    exact ⟨_, rfl, endP_none hr HE.out he hn⟩
  | some r =>
    simp only [e] at hof
    have h1 := (rowAt_some e).1
    have cjo : w.cell? ⟨rb, h % 64 * 10 + 7, none⟩ = some (.int .u64 r.joiner) := hr.rows.row pC_len h1 7 _ rfl
    have clo : w.cell? ⟨rb, h % 64 * 10 + 8, none⟩ = some (.bool r.loose) := hr.rows.row pC_len h1 8 _ rfl
    have cst : w.cell? ⟨rb, h % 64 * 10 + 4, none⟩ = some (.int .i64 r.state) := hr.rows.row pC_len h1 4 _ rfl
    have csp : w.cell? ⟨rb, h % 64 * 10 + 9, none⟩ = some (.bool r.stepping) := hr.rows.row pC_len h1 9 _ rfl
    have cho : w.cell? ⟨rb, h % 64 * 10 + 5, none⟩ = some (.int .u64 r.home) := hr.rows.row pC_len h1 5 _ rfl
    have HOF := Lib.hid hof
    have HE := Lib.hid e
    have H1 := Lib.hid h1
    have fz := hr.rows.free
    have hq := (List.getElem?_eq_some_iff.1 h1).1
    clear hof e h1
    obtain ⟨y, hy⟩ : ∃ y, r.loose = y := ⟨_, rfl⟩
    obtain ⟨x, hx⟩ : ∃ x, ((r.joiner : Int) != 0) = x := ⟨_, rfl⟩
    by_cases hj : x = true ∨ y = true
    · have hbe : looseE r = some (0, 8) := by
        unfold looseE; rw [if_pos]
        rcases hj with rfl | rfl
        · left; intro e; rw [e] at hx; simp at hx
        · right; exact hy
      have hbr : looseR r = r := by unfold looseR; rw [hbe]; rfl
      have HB := Lib.hid (And.intro hbe hbr)
      rw [hy] at clo
      clear hbe hbr hy
      cases x <;> cases y
      all_goals first | (exfalso; revert hj; simp; done) | skip
      all_goals
        clear hj
        go_enter Tryd.func16, Tryd.ntmps16
        go_wp2_with (first
          | (go_at_call 34; refine HOF.out.mono ?_; rintro e w' ⟨rfl, rfl⟩)
          | (go_at_call 31; refine (pfail_any _ _ (by omega) (by omega)).mono ?_; rintro e w' ⟨v, rfl, he, hn⟩))
        go_ret
        exact ⟨_, rfl, endP_no hr HE.out HB.out.1 HB.out.2 he hn⟩
    · obtain ⟨rfl, rfl⟩ : x = false ∧ y = false := by revert hj; cases x <;> cases y <;> simp
      have hj0 : r.joiner = 0 := by simpa using hx
      have hbe : looseE r = none := by unfold looseE; rw [if_neg (by simp [hj0, hy])]
      rw [hy] at clo
      have hpt := Lib.hid (hr.put (i := 8) (r' := { r with loose := true }) (v := .bool true) H1.out (by omega) rfl)
      have H2 : (l.set (h % 64) { r with loose := true })[h % 64]? = some { r with loose := true } := by simp [hq]
      have HFG := Lib.hid (pforget_any b rb (h % 64) _ _ _ hpt.out H2)
      obtain ⟨z, hz⟩ : ∃ z, (r.state == 4) = z := ⟨_, rfl⟩
      obtain ⟨u, hu⟩ : ∃ u, r.stepping = u := ⟨_, rfl⟩
      rw [hu] at csp
      by_cases hg : z = true ∧ u = false
      · obtain ⟨rfl, rfl⟩ := hg
        have h4 : r.state = 4 := by simpa using hz
        have hbr : looseR r = gone r := by unfold looseR; rw [hbe]; simp [h4, hu]
        have HB := Lib.hid (And.intro hbe hbr)
        clear hbe hbr hy hj hj0 hu h4 H2
        go_enter Tryd.func16, Tryd.ntmps16
        go_wp2_with (first
          | (go_at_call 34; refine HOF.out.mono ?_; rintro e w' ⟨rfl, rfl⟩)
          | (go_at_call 35; refine HFG.out.mono ?_; rintro e w' ⟨rfl, hr2, hf2⟩))
        go_ret
        rw [List.set_set] at hr2
        exact ⟨_, rfl, endP_ok HE.out HB.out.1 (by rw [HB.out.2]; exact hr2) (setFr2 hf2)⟩
      · have hbr : looseR r = { r with loose := true } := by
          unfold looseR; rw [hbe]
          have : ¬ (r.state = 4 ∧ r.stepping = false) := by
            rintro ⟨k1, k2⟩
            refine hg ⟨by rw [← hz, k1]; rfl, by rw [← hu]; exact k2⟩
          simp [this]
        have HB := Lib.hid (And.intro hbe hbr)
        clear hbe hbr hy hj hj0 hu H2
        cases z <;> cases u
        all_goals first | (exfalso; exact hg ⟨rfl, rfl⟩) | skip
        all_goals
          clear hg
          go_enter Tryd.func16, Tryd.ntmps16
          go_wp2_with (go_at_call 34; refine HOF.out.mono ?_; rintro e w' ⟨rfl, rfl⟩)
          go_ret
          exact ⟨_, rfl, endP_ok HE.out HB.out.1 (by rw [HB.out.2]; exact hpt.out) setFr⟩

set_option maxRecDepth 100000 in
set_option maxHeartbeats 1000000 in
theorem pleave_any (b rb : Nat) (l : List TR) (h : Nat) (w : World) (hr : PRep w b rb l)  (hh : h < 18446744073709551616) :
    Calls Tryd.prog 19 #[.pointer (some ⟨b, 0, none⟩), .int .u64 h] w fun e w' => ∃ v, e = .returned v ∧ EndP w b rb l h leaveE leaveR v w' := by
  have hof := pof_any b rb l h _ hr hh
  unfold ptrAt at hof
  cases e : rowAt l h with
  | none =>
    simp only [e] at hof
    have HOF := Lib.hid hof
    have HE := Lib.hid e
    clear hof e
    go_enter Tryd.func19, Tryd.ntmps19
    go_wp2_with (first
      | (go_at_call 34; refine HOF.out.mono ?_; rintro e w' ⟨rfl, rfl⟩)
      | (go_at_call 31; refine (pfail_any _ _ (by omega) (by omega)).mono ?_; rintro e w' ⟨v, rfl, he, hn⟩))
    go_ret
    exact ⟨_, rfl, endP_none hr HE.out he hn⟩
  | some r =>
    simp only [e] at hof
    have h1 := (rowAt_some e).1
    have clo : w.cell? ⟨rb, h % 64 * 10 + 8, none⟩ = some (.bool r.loose) := hr.rows.row pC_len h1 8 _ rfl
    have cre : w.cell? ⟨rb, h % 64 * 10 + 2, none⟩ = some (.bool r.reaped) := hr.rows.row pC_len h1 2 _ rfl
    have csp : w.cell? ⟨rb, h % 64 * 10 + 9, none⟩ = some (.bool r.stepping) := hr.rows.row pC_len h1 9 _ rfl
    have cho : w.cell? ⟨rb, h % 64 * 10 + 5, none⟩ = some (.int .u64 r.home) := hr.rows.row pC_len h1 5 _ rfl
    have HOF := Lib.hid hof
    have HE := Lib.hid e
    have H1 := Lib.hid h1
    have fz := hr.rows.free
    have hq := (List.getElem?_eq_some_iff.1 h1).1
    clear hof e h1
    cases hu : r.stepping with
    | false =>
      have hbe : leaveE r = some (0, 8) := by unfold leaveE; rw [if_pos hu]
      have hbr : leaveR r = r := by unfold leaveR; rw [hbe]; rfl
      have HB := Lib.hid (And.intro hbe hbr)
      rw [hu] at csp
      clear hbe hbr hu
      go_enter Tryd.func19, Tryd.ntmps19
      go_wp2_with (first
        | (go_at_call 34; refine HOF.out.mono ?_; rintro e w' ⟨rfl, rfl⟩)
        | (go_at_call 31; refine (pfail_any _ _ (by omega) (by omega)).mono ?_; rintro e w' ⟨v, rfl, he, hn⟩))
      go_ret
      exact ⟨_, rfl, endP_no hr HE.out HB.out.1 HB.out.2 he hn⟩
    | true =>
      have hbe : leaveE r = none := by unfold leaveE; rw [if_neg (by simp [hu])]
      rw [hu] at csp
      have hpt := Lib.hid (hr.put (i := 9) (r' := { r with stepping := false }) (v := .bool false) H1.out (by omega) rfl)
      have H2 : (l.set (h % 64) { r with stepping := false })[h % 64]? = some { r with stepping := false } := by simp [hq]
      have HFG := Lib.hid (pforget_any b rb (h % 64) _ _ _ hpt.out H2)
      obtain ⟨z, hz⟩ : ∃ z, r.loose = z := ⟨_, rfl⟩
      obtain ⟨x, hx⟩ : ∃ x, r.reaped = x := ⟨_, rfl⟩
      rw [hz] at clo
      rw [hx] at cre
      by_cases hg : z = true ∨ x = true
      · have hbr : leaveR r = gone r := by
          unfold leaveR; rw [hbe]
          have : r.loose = true ∨ r.reaped = true := by rw [hz, hx]; exact hg
          simp [this]
        have HB := Lib.hid (And.intro hbe hbr)
        clear hbe hbr hu hz hx H2
        cases z <;> cases x
        all_goals first | (exfalso; revert hg; simp; done) | skip
        all_goals
          clear hg
          go_enter Tryd.func19, Tryd.ntmps19
          go_wp2_with (first
            | (go_at_call 34; refine HOF.out.mono ?_; rintro e w' ⟨rfl, rfl⟩)
            | (go_at_call 35; refine HFG.out.mono ?_; rintro e w' ⟨rfl, hr2, hf2⟩))
          go_ret
          rw [List.set_set] at hr2
          exact ⟨_, rfl, endP_ok HE.out HB.out.1 (by rw [HB.out.2]; exact hr2) (setFr2 hf2)⟩
      · have hbr : leaveR r = { r with stepping := false } := by
          unfold leaveR; rw [hbe]
          have : ¬ (r.loose = true ∨ r.reaped = true) := by rw [hz, hx]; exact hg
          simp [this]
        have HB := Lib.hid (And.intro hbe hbr)
        obtain ⟨rfl, rfl⟩ : z = false ∧ x = false := by revert hg; cases z <;> cases x <;> simp
        clear hbe hbr hu hz hx H2 hg
        go_enter Tryd.func19, Tryd.ntmps19
        go_wp2_with (go_at_call 34; refine HOF.out.mono ?_; rintro e w' ⟨rfl, rfl⟩)
        go_ret
        exact ⟨_, rfl, endP_ok HE.out HB.out.1 (by rw [HB.out.2]; exact hpt.out) setFr⟩
set_option maxRecDepth 100000 in
set_option maxHeartbeats 1000000 in
theorem dloose_any (b rb : Nat) (l : List TR) (h : Nat) (w : World) (hr : DRep w b rb l) (hpl : Placed l) (hh : h < 18446744073709551616) :
    Calls Tryd.prog 39 #[.pointer (some ⟨b, 0, none⟩), .int .u64 h] w fun e w' => ∃ x y v, e = .returned (.tuple #[x, y, v]) ∧ EndD w b rb l h looseE looseR v w' := by
  have hof := rfind_any b rb l h _ hr hpl hh
  unfold ptrAt at hof
  cases e : rowAt l h with
  | none =>
    simp only [e] at hof
    have HOF := Lib.hid hof
    have HE := Lib.hid e
    clear hof e
    go_enter Tryd.func39, Tryd.ntmps39
    go_wp2_with (first
      | (go_at_call 44; refine HOF.out.mono ?_; rintro e w' ⟨rfl, rfl⟩)
      | (go_at_call 50; refine (dfail_any _ _ (by omega) (by omega)).mono ?_; rintro e w' ⟨v, rfl, he, hn⟩))
    go_ret3
    exact ⟨_, _, _, rfl, endD_none hr HE.out he hn⟩
  | some r =>
    simp only [e] at hof
    have h1 := (rowAt_some e).1
    have cjo : w.cell? ⟨rb, h % 64 * 9 + 4, none⟩ = some (.int .u64 r.joiner) := hr.rows.row dC_len h1 4 _ rfl
    have clo : w.cell? ⟨rb, h % 64 * 9 + 5, none⟩ = some (.bool r.loose) := hr.rows.row dC_len h1 5 _ rfl
    have cst : w.cell? ⟨rb, h % 64 * 9 + 1, none⟩ = some (.int .i64 r.state) := hr.rows.row dC_len h1 1 _ rfl
    have csp : w.cell? ⟨rb, h % 64 * 9 + 6, none⟩ = some (.bool r.stepping) := hr.rows.row dC_len h1 6 _ rfl
    have cho : w.cell? ⟨rb, h % 64 * 9 + 2, none⟩ = some (.int .u64 r.home) := hr.rows.row dC_len h1 2 _ rfl
    have HOF := Lib.hid hof
    have HE := Lib.hid e
    have H1 := Lib.hid h1
    have fz := hr.rows.free
    have hq := (List.getElem?_eq_some_iff.1 h1).1
    clear hof e h1
    obtain ⟨y, hy⟩ : ∃ y, r.loose = y := ⟨_, rfl⟩
    obtain ⟨x, hx⟩ : ∃ x, ((r.joiner : Int) != 0) = x := ⟨_, rfl⟩
    by_cases hj : x = true ∨ y = true
    · have hbe : looseE r = some (0, 8) := by
        unfold looseE; rw [if_pos]
        rcases hj with rfl | rfl
        · left; intro e; rw [e] at hx; simp at hx
        · right; exact hy
      have hbr : looseR r = r := by unfold looseR; rw [hbe]; rfl
      have HB := Lib.hid (And.intro hbe hbr)
      rw [hy] at clo
      clear hbe hbr hy
      cases x <;> cases y
      all_goals first | (exfalso; revert hj; simp; done) | skip
      all_goals
        clear hj
        go_enter Tryd.func39, Tryd.ntmps39
        go_wp2_with (first
          | (go_at_call 44; refine HOF.out.mono ?_; rintro e w' ⟨rfl, rfl⟩)
          | (go_at_call 50; refine (dfail_any _ _ (by omega) (by omega)).mono ?_; rintro e w' ⟨v, rfl, he, hn⟩))
        go_ret3
        exact ⟨_, _, _, rfl, endD_no hr HE.out HB.out.1 HB.out.2 he hn⟩
    · obtain ⟨rfl, rfl⟩ : x = false ∧ y = false := by revert hj; cases x <;> cases y <;> simp
      have hj0 : r.joiner = 0 := by simpa using hx
      have hbe : looseE r = none := by unfold looseE; rw [if_neg (by simp [hj0, hy])]
      rw [hy] at clo
      have hpt := Lib.hid (hr.put (i := 5) (r' := { r with loose := true }) (v := .bool true) H1.out (by omega) rfl)
      have H2 : (l.set (h % 64) { r with loose := true })[h % 64]? = some { r with loose := true } := by simp [hq]
      have HFG := Lib.hid (dforget_any b rb (h % 64) _ _ _ hpt.out H2)
      obtain ⟨z, hz⟩ : ∃ z, (r.state == 4) = z := ⟨_, rfl⟩
      obtain ⟨u, hu⟩ : ∃ u, r.stepping = u := ⟨_, rfl⟩
      rw [hu] at csp
      by_cases hg : z = true ∧ u = false
      · obtain ⟨rfl, rfl⟩ := hg
        have h4 : r.state = 4 := by simpa using hz
        have hbr : looseR r = gone r := by unfold looseR; rw [hbe]; simp [h4, hu]
        have HB := Lib.hid (And.intro hbe hbr)
        clear hbe hbr hy hj hj0 hu h4 H2
        go_enter Tryd.func39, Tryd.ntmps39
        go_wp2_with (first
          | (go_at_call 44; refine HOF.out.mono ?_; rintro e w' ⟨rfl, rfl⟩)
          | (go_at_call 51; refine HFG.out.mono ?_; rintro e w' ⟨rfl, hr2, hf2⟩))
        go_ret3
        rw [List.set_set] at hr2
        exact ⟨_, _, _, rfl, endD_ok HE.out HB.out.1 (by rw [HB.out.2]; exact hr2) (setFr2 hf2)⟩
      · have hbr : looseR r = { r with loose := true } := by
          unfold looseR; rw [hbe]
          have : ¬ (r.state = 4 ∧ r.stepping = false) := by
            rintro ⟨k1, k2⟩
            refine hg ⟨by rw [← hz, k1]; rfl, by rw [← hu]; exact k2⟩
          simp [this]
        have HB := Lib.hid (And.intro hbe hbr)
        clear hbe hbr hy hj hj0 hu H2
        cases z <;> cases u
        all_goals first | (exfalso; exact hg ⟨rfl, rfl⟩) | skip
        all_goals
          clear hg
          go_enter Tryd.func39, Tryd.ntmps39
          go_wp2_with (go_at_call 44; refine HOF.out.mono ?_; rintro e w' ⟨rfl, rfl⟩)
          go_ret3
          exact ⟨_, _, _, rfl, endD_ok HE.out HB.out.1 (by rw [HB.out.2]; exact hpt.out) setFr⟩

set_option maxRecDepth 100000 in
set_option maxHeartbeats 1000000 in
theorem dleave_any (b rb : Nat) (l : List TR) (h : Nat) (w : World) (hr : DRep w b rb l) (hpl : Placed l) (hh : h < 18446744073709551616) :
    Calls Tryd.prog 41 #[.pointer (some ⟨b, 0, none⟩), .int .u64 h] w fun e w' => ∃ x y v, e = .returned (.tuple #[x, y, v]) ∧ EndD w b rb l h leaveE leaveR v w' := by
  have hof := rfind_any b rb l h _ hr hpl hh
  unfold ptrAt at hof
  cases e : rowAt l h with
  | none =>
    simp only [e] at hof
    have HOF := Lib.hid hof
    have HE := Lib.hid e
    clear hof e
    go_enter Tryd.func41, Tryd.ntmps41
    go_wp2_with (first
      | (go_at_call 44; refine HOF.out.mono ?_; rintro e w' ⟨rfl, rfl⟩)
      | (go_at_call 50; refine (dfail_any _ _ (by omega) (by omega)).mono ?_; rintro e w' ⟨v, rfl, he, hn⟩))
    go_ret3
    exact ⟨_, _, _, rfl, endD_none hr HE.out he hn⟩
  | some r =>
    simp only [e] at hof
    have h1 := (rowAt_some e).1
    have clo : w.cell? ⟨rb, h % 64 * 9 + 5, none⟩ = some (.bool r.loose) := hr.rows.row dC_len h1 5 _ rfl
    have cre : w.cell? ⟨rb, h % 64 * 9 + 7, none⟩ = some (.bool r.reaped) := hr.rows.row dC_len h1 7 _ rfl
    have csp : w.cell? ⟨rb, h % 64 * 9 + 6, none⟩ = some (.bool r.stepping) := hr.rows.row dC_len h1 6 _ rfl
    have cho : w.cell? ⟨rb, h % 64 * 9 + 2, none⟩ = some (.int .u64 r.home) := hr.rows.row dC_len h1 2 _ rfl
    have HOF := Lib.hid hof
    have HE := Lib.hid e
    have H1 := Lib.hid h1
    have fz := hr.rows.free
    have hq := (List.getElem?_eq_some_iff.1 h1).1
    clear hof e h1
    cases hu : r.stepping with
    | false =>
      have hbe : leaveE r = some (0, 8) := by unfold leaveE; rw [if_pos hu]
      have hbr : leaveR r = r := by unfold leaveR; rw [hbe]; rfl
      have HB := Lib.hid (And.intro hbe hbr)
      rw [hu] at csp
      clear hbe hbr hu
      go_enter Tryd.func41, Tryd.ntmps41
      go_wp2_with (first
        | (go_at_call 44; refine HOF.out.mono ?_; rintro e w' ⟨rfl, rfl⟩)
        | (go_at_call 50; refine (dfail_any _ _ (by omega) (by omega)).mono ?_; rintro e w' ⟨v, rfl, he, hn⟩))
      go_ret3
      exact ⟨_, _, _, rfl, endD_no hr HE.out HB.out.1 HB.out.2 he hn⟩
    | true =>
      have hbe : leaveE r = none := by unfold leaveE; rw [if_neg (by simp [hu])]
      rw [hu] at csp
      have hpt := Lib.hid (hr.put (i := 6) (r' := { r with stepping := false }) (v := .bool false) H1.out (by omega) rfl)
      have H2 : (l.set (h % 64) { r with stepping := false })[h % 64]? = some { r with stepping := false } := by simp [hq]
      have HFG := Lib.hid (dforget_any b rb (h % 64) _ _ _ hpt.out H2)
      obtain ⟨z, hz⟩ : ∃ z, r.loose = z := ⟨_, rfl⟩
      obtain ⟨x, hx⟩ : ∃ x, r.reaped = x := ⟨_, rfl⟩
      rw [hz] at clo
      rw [hx] at cre
      by_cases hg : z = true ∨ x = true
      · have hbr : leaveR r = gone r := by
          unfold leaveR; rw [hbe]
          have : r.loose = true ∨ r.reaped = true := by rw [hz, hx]; exact hg
          simp [this]
        have HB := Lib.hid (And.intro hbe hbr)
        clear hbe hbr hu hz hx H2
        cases z <;> cases x
        all_goals first | (exfalso; revert hg; simp; done) | skip
        all_goals
          clear hg
          go_enter Tryd.func41, Tryd.ntmps41
          go_wp2_with (first
            | (go_at_call 44; refine HOF.out.mono ?_; rintro e w' ⟨rfl, rfl⟩)
            | (go_at_call 51; refine HFG.out.mono ?_; rintro e w' ⟨rfl, hr2, hf2⟩))
          go_ret3
          rw [List.set_set] at hr2
          exact ⟨_, _, _, rfl, endD_ok HE.out HB.out.1 (by rw [HB.out.2]; exact hr2) (setFr2 hf2)⟩
      · have hbr : leaveR r = { r with stepping := false } := by
          unfold leaveR; rw [hbe]
          have : ¬ (r.loose = true ∨ r.reaped = true) := by rw [hz, hx]; exact hg
          simp [this]
        have HB := Lib.hid (And.intro hbe hbr)
        obtain ⟨rfl, rfl⟩ : z = false ∧ x = false := by revert hg; cases z <;> cases x <;> simp
        clear hbe hbr hu hz hx H2 hg
        go_enter Tryd.func41, Tryd.ntmps41
        go_wp2_with (go_at_call 44; refine HOF.out.mono ?_; rintro e w' ⟨rfl, rfl⟩)
        go_ret3
        exact ⟨_, _, _, rfl, endD_ok HE.out HB.out.1 (by rw [HB.out.2]; exact hpt.out) setFr⟩

end Go.Proofs.YtpfkfajgbaakoaaDoor
