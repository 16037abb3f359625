/- Calls on one thread of the table: Be, Join, End, Status; on both sides. -/
import Derived.Test.YtpfkfajgbaakoaaDoorTabA
namespace Go.Proofs.YtpfkfajgbaakoaaDoor
open Go.RowKit

theorem set_self {l : List TR} {q : Nat} {r : TR} (h : l[q]? = some r) : l.set q r = l := by
  obtain ⟨e1, e2⟩ := List.getElem?_eq_some_iff.1 h
  rw [← e2]; exact List.set_getElem_self e1

theorem PRep.put {w : World} {b rb q i : Nat} {l : List TR} {r r' : TR} {v : Value} (h : PRep w b rb l) (hq : l[q]? = some r) (hi : i < 10) (e : pC r' = (pC r).set i v) : PRep (w.setCell ⟨rb, q * 10 + i, none⟩ v) b rb (l.set q r') :=
  ⟨h.ne, by rw [List.length_set]; exact h.hd.setNe (Ne.symm h.ne) _, h.rows.setRow pC_len hq hi e, by rw [List.length_set]; exact h.len⟩
theorem PRep.put2 {w : World} {b rb q i : Nat} {l : List TR} {r r' : TR} {v : Value} (h : PRep w b rb (l.set q r)) (hq : q < l.length) (hi : i < 10) (e : pC r' = (pC r).set i v) : PRep (w.setCell ⟨rb, q * 10 + i, none⟩ v) b rb (l.set q r') := by
  have := h.put (q := q) (r := r) (by simp [hq]) hi e
  rwa [List.set_set] at this
/-- How a call on one thread ends: nobody has the id; it is refused; it is done. -/
def EndP (w : World) (b rb : Nat) (l : List TR) (h : Nat) (E : TR → Option (Int × Int)) (R : TR → TR) (v : Value) (w' : World) : Prop := Says w' tabL v (onE l h E) ∧ PRep w' b rb (onL l h R) ∧ Fr (fun k => onE l h E = none ∧ k = rb) w w'
section
variable {w w' : World} {b rb : Nat} {l : List TR} {h : Nat} {E : TR → Option (Int × Int)} {R : TR → TR} {v : Value} {r : TR}
theorem endP_none (hr : PRep w b rb l) (e : rowAt l h = none) (hs : Says w' tabL v (some (0, 7))) (hn : New w w') : EndP w b rb l h E R v w' := by
  unfold EndP onE onL
  rw [e]
  exact ⟨hs, hr.new hn, hn.mono (fun _ _ h => h.elim)⟩
theorem endP_no (hr : PRep w b rb l) (e : rowAt l h = some r) {k : Int} (hE : E r = some (0, k)) (hR : R r = r) (hs : Says w' tabL v (some (0, k))) (hn : New w w') : EndP w b rb l h E R v w' := by
  unfold EndP onE onL
  rw [e]
  show Says w' tabL v (E r) ∧ PRep w' b rb (l.set (h % 64) (R r)) ∧ Fr (fun k => E r = none ∧ k = rb) w w'
  rw [hE, hR, set_self (rowAt_some e).1]
  exact ⟨hs, hr.new hn, hn.mono (fun _ _ h => h.elim)⟩
theorem endP_ok (e : rowAt l h = some r) (hE : E r = none) (hr : PRep w' b rb (l.set (h % 64) (R r))) (hf : Fr (· = rb) w w') : EndP w b rb l h E R (.nilIface) w' := by
  unfold EndP onE onL
  rw [e]
  show Says w' tabL _ (E r) ∧ PRep w' b rb (l.set (h % 64) (R r)) ∧ Fr (fun k => E r = none ∧ k = rb) w w'
  rw [hE]
  exact ⟨rfl, hr, hf.mono (fun _ _ h => ⟨rfl, h⟩)⟩
end
theorem DRep.put {w : World} {b rb q i : Nat} {l : List TR} {r r' : TR} {v : Value} (h : DRep w b rb l) (hq : l[q]? = some r) (hi : i < 9) (e : dC r' = (dC r).set i v) : DRep (w.setCell ⟨rb, q * 9 + i, none⟩ v) b rb (l.set q r') :=
  ⟨h.ne, by rw [List.length_set]; exact h.hd.setNe (Ne.symm h.ne) _, h.rows.setRow dC_len hq hi e, by rw [List.length_set]; exact h.len⟩
theorem DRep.put2 {w : World} {b rb q i : Nat} {l : List TR} {r r' : TR} {v : Value} (h : DRep w b rb (l.set q r)) (hq : q < l.length) (hi : i < 9) (e : dC r' = (dC r).set i v) : DRep (w.setCell ⟨rb, q * 9 + i, none⟩ v) b rb (l.set q r') := by
  have := h.put (q := q) (r := r) (by simp [hq]) hi e
  rwa [List.set_set] at this
/-- How a call on one thread ends: nobody has the id; it is refused; it is done. -/
def EndD (w : World) (b rb : Nat) (l : List TR) (h : Nat) (E : TR → Option (Int × Int)) (R : TR → TR) (v : Value) (w' : World) : Prop := SaysF w' tabL v (onE l h E) ∧ DRep w' b rb (onL l h R) ∧ Fr (fun k => onE l h E = none ∧ k = rb) w w'
section
variable {w w' : World} {b rb : Nat} {l : List TR} {h : Nat} {E : TR → Option (Int × Int)} {R : TR → TR} {v : Value} {r : TR}
theorem endD_none (hr : DRep w b rb l) (e : rowAt l h = none) (hs : SaysF w' tabL v (some (0, 7))) (hn : New w w') : EndD w b rb l h E R v w' := by
  unfold EndD onE onL
  rw [e]
  exact ⟨hs, hr.new hn, hn.mono (fun _ _ h => h.elim)⟩
theorem endD_no (hr : DRep w b rb l) (e : rowAt l h = some r) {k : Int} (hE : E r = some (0, k)) (hR : R r = r) (hs : SaysF w' tabL v (some (0, k))) (hn : New w w') : EndD w b rb l h E R v w' := by
  unfold EndD onE onL
  rw [e]
  show SaysF w' tabL v (E r) ∧ DRep w' b rb (l.set (h % 64) (R r)) ∧ Fr (fun k => E r = none ∧ k = rb) w w'
  rw [hE, hR, set_self (rowAt_some e).1]
  exact ⟨hs, hr.new hn, hn.mono (fun _ _ h => h.elim)⟩
theorem endD_ok (e : rowAt l h = some r) (hE : E r = none) (hr : DRep w' b rb (l.set (h % 64) (R r))) (hf : Fr (· = rb) w w') : EndD w b rb l h E R (.pointer none) w' := by
  unfold EndD onE onL
  rw [e]
  show SaysF w' tabL _ (E r) ∧ DRep w' b rb (l.set (h % 64) (R r)) ∧ Fr (fun k => E r = none ∧ k = rb) w w'
  rw [hE]
  exact ⟨rfl, hr, hf.mono (fun _ _ h => ⟨rfl, h⟩)⟩
end

set_option maxRecDepth 100000 in
set_option maxHeartbeats 400000 in
theorem alive_any (s : Int) (w : World) : Calls Tryd.prog 36 #[.int .i64 s] w fun e w' => e = .returned (.bool (liveS s)) ∧ w = w' := by
  unfold liveS
  have h1 : ∃ x, (s == 1) = x := ⟨_, rfl⟩
  have h2 : ∃ x, (s == 2) = x := ⟨_, rfl⟩
  have h3 : ∃ x, (s == 3) = x := ⟨_, rfl⟩
  obtain ⟨x, h1⟩ := h1
  obtain ⟨y, h2⟩ := h2
  obtain ⟨z, h3⟩ := h3
  rw [h1, h2, h3]
  cases x <;> cases y <;> cases z
  all_goals
    go_enter Tryd.func36, Tryd.ntmps36
    go_wp2
    go_ret
    exact ⟨rfl, rfl⟩

theorem pof_any (b rb : Nat) (l : List TR) (h : Nat) (w : World) (hr : PRep w b rb l) (hh : h < 18446744073709551616) :
    Calls Tryd.prog 34 #[.pointer (some ⟨b, 0, none⟩), .int .u64 h] w fun e w' => e = .returned (ptrAt l h rb 10) ∧ w = w' := of_any b rb l h w hr hh
theorem pfail_any (k : Int) (w : World) (h1 : 1 ≤ k) (h2 : k ≤ 10) :
    Calls Tryd.prog 31 #[.iface 30 (.int .i64 k)] w fun e w' => ∃ v, e = .returned v ∧ Says w' tabL v (some (0, k)) ∧ New w w' := fail_any k w h1 h2
theorem dfail_any (k : Int) (w : World) (h1 : 1 ≤ k) (h2 : k ≤ 10) :
    Calls Tryd.prog 50 #[.int .i64 k] w fun e w' => ∃ v, e = .returned v ∧ SaysF w' tabL v (some (0, k)) ∧ New w w' := rno_any k w
theorem setFr {w : World} {rb o : Nat} {v : Value} : Fr (· = rb) w (w.setCell ⟨rb, o, none⟩ v) := Fr.setCell (S := (· = rb)) (Fr.refl _ _) (fun _ => by rfl) _

set_option maxRecDepth 100000 in
set_option maxHeartbeats 1000000 in
theorem pbe_any (b rb : Nat) (l : List TR) (h : Nat) (s : Int) (w : World) (hr : PRep w b rb l)  (hh : h < 18446744073709551616) :
    Calls Tryd.prog 20 #[.pointer (some ⟨b, 0, none⟩), .int .u64 h, .int .i64 s] w fun e w' => ∃ v, e = .returned v ∧ EndP w b rb l h (beE s) (beR s) v w' := by
  have hof := pof_any b rb l h _ hr hh
  unfold ptrAt at hof
  cases e : rowAt l h with
  | none =>
    simp only [e] at hof
    have HOF := Lib.hid hof
    have HE := Lib.hid e
    clear hof e
    go_enter Tryd.func20, Tryd.ntmps20
    go_wp2_with (first
      | (go_at_call 34; refine HOF.out.mono ?_; rintro e w' ⟨rfl, rfl⟩)
      | (go_at_call 31; refine (pfail_any _ _ (by omega) (by omega)).mono ?_; rintro e w' ⟨v, rfl, he, hn⟩))
    go_ret
    exact ⟨_, rfl, endP_none hr HE.out he hn⟩
  | some r =>
    simp only [e] at hof
    have h1 := (rowAt_some e).1
    have cst : w.cell? ⟨rb, h % 64 * 10 + 4, none⟩ = some (.int .i64 r.state) := hr.rows.row pC_len h1 4 _ rfl
    have HOF := Lib.hid hof
    have HE := Lib.hid e
    have H1 := Lib.hid h1
    have fz := hr.rows.free
    have hal := alive_any s w
    have h1 : ∃ x, (s == 1) = x := ⟨_, rfl⟩
    have h2 : ∃ x, (s == 2) = x := ⟨_, rfl⟩
    have h3 : ∃ x, (s == 3) = x := ⟨_, rfl⟩
    obtain ⟨x, h1⟩ := h1
    obtain ⟨y, h2⟩ := h2
    obtain ⟨z, h3⟩ := h3
    have hli : liveS s = (x || y || z) := by unfold liveS; rw [h1, h2, h3]
    have n1 : (s != 1) = !x := by rw [← h1]; rfl
    have n2 : (s != 2) = !y := by rw [← h2]; rfl
    have n3 : (s != 3) = !z := by rw [← h3]; rfl
    by_cases hl : (x || y || z) = false
    · have hbe : beE s r = some (0, 1) := by unfold beE; rw [hli, if_pos hl]
      have hbr : beR s r = r := by unfold beR; rw [hbe]; rfl
      have HB := Lib.hid (And.intro hbe hbr)
      rw [hli, hl] at hal
      obtain ⟨rfl, rfl, rfl⟩ : x = false ∧ y = false ∧ z = false := by revert hl; cases x <;> cases y <;> cases z <;> simp
      simp only [Bool.not_false] at n1 n2 n3
      clear hof e h1 h2 h3 hli hbe hbr hl
      go_enter Tryd.func20, Tryd.ntmps20
      go_wp2_with (first
        | (go_at_call 34; refine HOF.out.mono ?_; rintro e w' ⟨rfl, rfl⟩)
        | (go_at_call 36; refine hal.mono ?_; rintro e w' ⟨rfl, rfl⟩)
        | (go_at_call 31; refine (pfail_any _ _ (by omega) (by omega)).mono ?_; rintro e w' ⟨v, rfl, he, hn⟩))
      go_ret
      exact ⟨_, rfl, endP_no hr HE.out HB.out.1 HB.out.2 he hn⟩
    · have hl : (x || y || z) = true := (Bool.not_eq_false _).mp hl
      rw [hli, hl] at hal
      by_cases h4 : r.state = 4
      · have hbe : beE s r = some (0, 8) := by unfold beE; rw [hli, hl, if_neg (by simp), if_pos h4]
        have hbr : beR s r = r := by unfold beR; rw [hbe]; rfl
        have HB := Lib.hid (And.intro hbe hbr)
        have t4 : (r.state == 4) = true := by simp [h4]
        clear hof e h1 h2 h3 hli hbe hbr h4
        cases x <;> cases y <;> cases z
        all_goals first | (exfalso; revert hl; simp; done) | skip
        all_goals
          simp only [Bool.not_false, Bool.not_true] at n1 n2 n3
          clear hl
          go_enter Tryd.func20, Tryd.ntmps20
          go_wp2_with (first
            | (go_at_call 34; refine HOF.out.mono ?_; rintro e w' ⟨rfl, rfl⟩)
            | (go_at_call 36; refine hal.mono ?_; rintro e w' ⟨rfl, rfl⟩)
            | (go_at_call 31; refine (pfail_any _ _ (by omega) (by omega)).mono ?_; rintro e w' ⟨v, rfl, he, hn⟩))
          go_ret
          exact ⟨_, rfl, endP_no hr HE.out HB.out.1 HB.out.2 he hn⟩
      · have hbe : beE s r = none := by unfold beE; rw [hli, hl, if_neg (by simp), if_neg h4]
        have hbr : beR s r = { r with state := s } := by unfold beR; rw [hbe]; rfl
        have HB := Lib.hid (And.intro hbe hbr)
        have t4 : (r.state == 4) = false := by simp [h4]
        clear hof e h1 h2 h3 hli hbe hbr h4
        cases x <;> cases y <;> cases z
        all_goals first | (exfalso; revert hl; simp; done) | skip
        all_goals
          simp only [Bool.not_false, Bool.not_true] at n1 n2 n3
          clear hl
          go_enter Tryd.func20, Tryd.ntmps20
          go_wp2_with (first
            | (go_at_call 34; refine HOF.out.mono ?_; rintro e w' ⟨rfl, rfl⟩)
            | (go_at_call 36; refine hal.mono ?_; rintro e w' ⟨rfl, rfl⟩))
          go_ret
          exact ⟨_, rfl, endP_ok HE.out HB.out.1 (by rw [HB.out.2]; exact hr.put (i := 4) H1.out (by omega) rfl) setFr⟩

set_option maxRecDepth 100000 in
set_option maxHeartbeats 1000000 in
theorem pjoin_any (b rb : Nat) (l : List TR) (h who : Nat) (w : World) (hr : PRep w b rb l)  (hh : h < 18446744073709551616) :
    Calls Tryd.prog 23 #[.pointer (some ⟨b, 0, none⟩), .int .u64 h, .int .u64 who] w fun e w' => ∃ v, e = .returned v ∧ EndP w b rb l h (joinE who) (joinR who) v w' := by
  have hof := pof_any b rb l h _ hr hh
  unfold ptrAt at hof
  cases e : rowAt l h with
  | none =>
    simp only [e] at hof
    have HOF := Lib.hid hof
    have HE := Lib.hid e
    clear hof e
    go_enter Tryd.func23, Tryd.ntmps23
    go_wp2_with (first
      | (go_at_call 34; refine HOF.out.mono ?_; rintro e w' ⟨rfl, rfl⟩)
      | (go_at_call 31; refine (pfail_any _ _ (by omega) (by omega)).mono ?_; rintro e w' ⟨v, rfl, he, hn⟩))
    go_ret
    exact ⟨_, rfl, endP_none hr HE.out he hn⟩
  | some r =>
    simp only [e] at hof
    have h1 := (rowAt_some e).1
    have cjo : w.cell? ⟨rb, h % 64 * 10 + 7, none⟩ = some (.int .u64 r.joiner) := hr.rows.row pC_len h1 7 _ rfl
    have clo : w.cell? ⟨rb, h % 64 * 10 + 8, none⟩ = some (.bool r.loose) := hr.rows.row pC_len h1 8 _ rfl
    have HOF := Lib.hid hof
    have HE := Lib.hid e
    have H1 := Lib.hid h1
    have fz := hr.rows.free
    clear hof e h1
    by_cases h0 : who = 0
    · have hbe : joinE who r = some (0, 1) := by unfold joinE; rw [if_pos h0]
      have hbr : joinR who r = r := by unfold joinR; rw [hbe]; rfl
      have HB := Lib.hid (And.intro hbe hbr)
      have t0 : ((who : Int) == 0) = true := by simp [h0]
      clear hbe hbr h0
      go_enter Tryd.func23, Tryd.ntmps23
      go_wp2_with (first
        | (go_at_call 34; refine HOF.out.mono ?_; rintro e w' ⟨rfl, rfl⟩)
        | (go_at_call 31; refine (pfail_any _ _ (by omega) (by omega)).mono ?_; rintro e w' ⟨v, rfl, he, hn⟩))
      go_ret
      exact ⟨_, rfl, endP_no hr HE.out HB.out.1 HB.out.2 he hn⟩
    · have t0 : ((who : Int) == 0) = false := by rw [beq_eq_false_iff_ne]; omega
      obtain ⟨y, hy⟩ : ∃ y, r.loose = y := ⟨_, rfl⟩
      obtain ⟨x, hx⟩ : ∃ x, ((r.joiner : Int) != 0) = x := ⟨_, rfl⟩
      by_cases hj : x = true ∨ y = true
      · have hbe : joinE who r = some (0, 8) := by
          unfold joinE; rw [if_neg h0, if_pos]
          rcases hj with rfl | rfl
          · left; intro e; rw [e] at hx; simp at hx
          · right; exact hy
        have hbr : joinR who r = r := by unfold joinR; rw [hbe]; rfl
        have HB := Lib.hid (And.intro hbe hbr)
        rw [hy] at clo
        clear hbe hbr h0 hy
        cases x <;> cases y
        all_goals first | (exfalso; revert hj; simp; done) | skip
        all_goals
          clear hj
          go_enter Tryd.func23, Tryd.ntmps23
          go_wp2_with (first
            | (go_at_call 34; refine HOF.out.mono ?_; rintro e w' ⟨rfl, rfl⟩)
            | (go_at_call 31; refine (pfail_any _ _ (by omega) (by omega)).mono ?_; rintro e w' ⟨v, rfl, he, hn⟩))
          go_ret
          exact ⟨_, rfl, endP_no hr HE.out HB.out.1 HB.out.2 he hn⟩
      · obtain ⟨rfl, rfl⟩ : x = false ∧ y = false := by revert hj; cases x <;> cases y <;> simp
        have hj0 : r.joiner = 0 := by simpa using hx
        have hbe : joinE who r = none := by unfold joinE; rw [if_neg h0, if_neg (by simp [hj0, hy])]
        have hbr : joinR who r = { r with joiner := who } := by unfold joinR; rw [hbe]; rfl
        have HB := Lib.hid (And.intro hbe hbr)
        rw [hy] at clo
        clear hbe hbr h0 hy hj hj0
        go_enter Tryd.func23, Tryd.ntmps23
        go_wp2_with (go_at_call 34; refine HOF.out.mono ?_; rintro e w' ⟨rfl, rfl⟩)
        go_ret
        exact ⟨_, rfl, endP_ok HE.out HB.out.1 (by rw [HB.out.2]; exact hr.put (i := 7) H1.out (by omega) rfl) setFr⟩
set_option maxRecDepth 100000 in
set_option maxHeartbeats 1000000 in
theorem dbe_any (b rb : Nat) (l : List TR) (h : Nat) (s : Int) (w : World) (hr : DRep w b rb l) (hpl : Placed l) (hh : h < 18446744073709551616) :
    Calls Tryd.prog 37 #[.pointer (some ⟨b, 0, none⟩), .int .u64 h, .int .i64 s] w fun e w' => ∃ v, e = .returned v ∧ EndD w b rb l h (beE s) (beR s) v w' := by
  have hof := rfind_any b rb l h _ hr hpl hh
  unfold ptrAt at hof
  cases e : rowAt l h with
  | none =>
    simp only [e] at hof
    have HOF := Lib.hid hof
    have HE := Lib.hid e
    clear hof e
    go_enter Tryd.func37, Tryd.ntmps37
    go_wp2_with (first
      | (go_at_call 44; refine HOF.out.mono ?_; rintro e w' ⟨rfl, rfl⟩)
      | (go_at_call 50; refine (dfail_any _ _ (by omega) (by omega)).mono ?_; rintro e w' ⟨v, rfl, he, hn⟩))
    go_ret
    exact ⟨_, rfl, endD_none hr HE.out he hn⟩
  | some r =>
    simp only [e] at hof
    have h1 := (rowAt_some e).1
    have cst : w.cell? ⟨rb, h % 64 * 9 + 1, none⟩ = some (.int .i64 r.state) := hr.rows.row dC_len h1 1 _ rfl
    have HOF := Lib.hid hof
    have HE := Lib.hid e
    have H1 := Lib.hid h1
    have fz := hr.rows.free
    have hal := alive_any s w
    have h1 : ∃ x, (s == 1) = x := ⟨_, rfl⟩
    have h2 : ∃ x, (s == 2) = x := ⟨_, rfl⟩
    have h3 : ∃ x, (s == 3) = x := ⟨_, rfl⟩
    obtain ⟨x, h1⟩ := h1
    obtain ⟨y, h2⟩ := h2
    obtain ⟨z, h3⟩ := h3
    have hli : liveS s = (x || y || z) := by unfold liveS; rw [h1, h2, h3]
    have n1 : (s != 1) = !x := by rw [← h1]; rfl
    have n2 : (s != 2) = !y := by rw [← h2]; rfl
    have n3 : (s != 3) = !z := by rw [← h3]; rfl
    by_cases hl : (x || y || z) = false
    · have hbe : beE s r = some (0, 1) := by unfold beE; rw [hli, if_pos hl]
      have hbr : beR s r = r := by unfold beR; rw [hbe]; rfl
      have HB := Lib.hid (And.intro hbe hbr)
      rw [hli, hl] at hal
      obtain ⟨rfl, rfl, rfl⟩ : x = false ∧ y = false ∧ z = false := by revert hl; cases x <;> cases y <;> cases z <;> simp
      simp only [Bool.not_false] at n1 n2 n3
      clear hof e h1 h2 h3 hli hbe hbr hl
      go_enter Tryd.func37, Tryd.ntmps37
      go_wp2_with (first
        | (go_at_call 44; refine HOF.out.mono ?_; rintro e w' ⟨rfl, rfl⟩)
        | (go_at_call 36; refine hal.mono ?_; rintro e w' ⟨rfl, rfl⟩)
        | (go_at_call 50; refine (dfail_any _ _ (by omega) (by omega)).mono ?_; rintro e w' ⟨v, rfl, he, hn⟩))
      go_ret
      exact ⟨_, rfl, endD_no hr HE.out HB.out.1 HB.out.2 he hn⟩
    · have hl : (x || y || z) = true := (Bool.not_eq_false _).mp hl
      rw [hli, hl] at hal
      by_cases h4 : r.state = 4
      · have hbe : beE s r = some (0, 8) := by unfold beE; rw [hli, hl, if_neg (by simp), if_pos h4]
        have hbr : beR s r = r := by unfold beR; rw [hbe]; rfl
        have HB := Lib.hid (And.intro hbe hbr)
        have t4 : (r.state == 4) = true := by simp [h4]
        clear hof e h1 h2 h3 hli hbe hbr h4
        cases x <;> cases y <;> cases z
        all_goals first | (exfalso; revert hl; simp; done) | skip
        all_goals
          simp only [Bool.not_false, Bool.not_true] at n1 n2 n3
          clear hl
          go_enter Tryd.func37, Tryd.ntmps37
          go_wp2_with (first
            | (go_at_call 44; refine HOF.out.mono ?_; rintro e w' ⟨rfl, rfl⟩)
            | (go_at_call 36; refine hal.mono ?_; rintro e w' ⟨rfl, rfl⟩)
            | (go_at_call 50; refine (dfail_any _ _ (by omega) (by omega)).mono ?_; rintro e w' ⟨v, rfl, he, hn⟩))
          go_ret
          exact ⟨_, rfl, endD_no hr HE.out HB.out.1 HB.out.2 he hn⟩
      · have hbe : beE s r = none := by unfold beE; rw [hli, hl, if_neg (by simp), if_neg h4]
        have hbr : beR s r = { r with state := s } := by unfold beR; rw [hbe]; rfl
        have HB := Lib.hid (And.intro hbe hbr)
        have t4 : (r.state == 4) = false := by simp [h4]
        clear hof e h1 h2 h3 hli hbe hbr h4
        cases x <;> cases y <;> cases z
        all_goals first | (exfalso; revert hl; simp; done) | skip
        all_goals
          simp only [Bool.not_false, Bool.not_true] at n1 n2 n3
          clear hl
          go_enter Tryd.func37, Tryd.ntmps37
          go_wp2_with (first
            | (go_at_call 44; refine HOF.out.mono ?_; rintro e w' ⟨rfl, rfl⟩)
            | (go_at_call 36; refine hal.mono ?_; rintro e w' ⟨rfl, rfl⟩))
          go_ret
          exact ⟨_, rfl, endD_ok HE.out HB.out.1 (by rw [HB.out.2]; exact hr.put (i := 1) H1.out (by omega) rfl) setFr⟩

set_option maxRecDepth 100000 in
set_option maxHeartbeats 1000000 in
theorem djoin_any (b rb : Nat) (l : List TR) (h who : Nat) (w : World) (hr : DRep w b rb l) (hpl : Placed l) (hh : h < 18446744073709551616) :
    Calls Tryd.prog 38 #[.pointer (some ⟨b, 0, none⟩), .int .u64 h, .int .u64 who] w fun e w' => ∃ v, e = .returned v ∧ EndD w b rb l h (joinE who) (joinR who) v w' := by
  have hof := rfind_any b rb l h _ hr hpl hh
  unfold ptrAt at hof
  cases e : rowAt l h with
  | none =>
    simp only [e] at hof
    have HOF := Lib.hid hof
    have HE := Lib.hid e
    clear hof e
    go_enter Tryd.func38, Tryd.ntmps38
    go_wp2_with (first
      | (go_at_call 44; refine HOF.out.mono ?_; rintro e w' ⟨rfl, rfl⟩)
      | (go_at_call 50; refine (dfail_any _ _ (by omega) (by omega)).mono ?_; rintro e w' ⟨v, rfl, he, hn⟩))
    go_ret
    exact ⟨_, rfl, endD_none hr HE.out he hn⟩
  | some r =>
    simp only [e] at hof
    have h1 := (rowAt_some e).1
    have cjo : w.cell? ⟨rb, h % 64 * 9 + 4, none⟩ = some (.int .u64 r.joiner) := hr.rows.row dC_len h1 4 _ rfl
    have clo : w.cell? ⟨rb, h % 64 * 9 + 5, none⟩ = some (.bool r.loose) := hr.rows.row dC_len h1 5 _ rfl
    have HOF := Lib.hid hof
    have HE := Lib.hid e
    have H1 := Lib.hid h1
    have fz := hr.rows.free
    clear hof e h1
    by_cases h0 : who = 0
    · have hbe : joinE who r = some (0, 1) := by unfold joinE; rw [if_pos h0]
      have hbr : joinR who r = r := by unfold joinR; rw [hbe]; rfl
      have HB := Lib.hid (And.intro hbe hbr)
      have t0 : ((who : Int) == 0) = true := by simp [h0]
      clear hbe hbr h0
      go_enter Tryd.func38, Tryd.ntmps38
      go_wp2_with (first
        | (go_at_call 44; refine HOF.out.mono ?_; rintro e w' ⟨rfl, rfl⟩)
        | (go_at_call 50; refine (dfail_any _ _ (by omega) (by omega)).mono ?_; rintro e w' ⟨v, rfl, he, hn⟩))
      go_ret
      exact ⟨_, rfl, endD_no hr HE.out HB.out.1 HB.out.2 he hn⟩
    · have t0 : ((who : Int) == 0) = false := by rw [beq_eq_false_iff_ne]; omega
      obtain ⟨y, hy⟩ : ∃ y, r.loose = y := ⟨_, rfl⟩
      obtain ⟨x, hx⟩ : ∃ x, ((r.joiner : Int) != 0) = x := ⟨_, rfl⟩
      by_cases hj : x = true ∨ y = true
      · have hbe : joinE who r = some (0, 8) := by
          unfold joinE; rw [if_neg h0, if_pos]
          rcases hj with rfl | rfl
          · left; intro e; rw [e] at hx; simp at hx
          · right; exact hy
        have hbr : joinR who r = r := by unfold joinR; rw [hbe]; rfl
        have HB := Lib.hid (And.intro hbe hbr)
        rw [hy] at clo
        clear hbe hbr h0 hy
        cases x <;> cases y
        all_goals first | (exfalso; revert hj; simp; done) | skip
        all_goals
          clear hj
          go_enter Tryd.func38, Tryd.ntmps38
          go_wp2_with (first
            | (go_at_call 44; refine HOF.out.mono ?_; rintro e w' ⟨rfl, rfl⟩)
            | (go_at_call 50; refine (dfail_any _ _ (by omega) (by omega)).mono ?_; rintro e w' ⟨v, rfl, he, hn⟩))
          go_ret
          exact ⟨_, rfl, endD_no hr HE.out HB.out.1 HB.out.2 he hn⟩
      · obtain ⟨rfl, rfl⟩ : x = false ∧ y = false := by revert hj; cases x <;> cases y <;> simp
        have hj0 : r.joiner = 0 := by simpa using hx
        have hbe : joinE who r = none := by unfold joinE; rw [if_neg h0, if_neg (by simp [hj0, hy])]
        have hbr : joinR who r = { r with joiner := who } := by unfold joinR; rw [hbe]; rfl
        have HB := Lib.hid (And.intro hbe hbr)
        rw [hy] at clo
        clear hbe hbr h0 hy hj hj0
        go_enter Tryd.func38, Tryd.ntmps38
        go_wp2_with (go_at_call 44; refine HOF.out.mono ?_; rintro e w' ⟨rfl, rfl⟩)
        go_ret
        exact ⟨_, rfl, endD_ok HE.out HB.out.1 (by rw [HB.out.2]; exact hr.put (i := 4) H1.out (by omega) rfl) setFr⟩

end Go.Proofs.YtpfkfajgbaakoaaDoor
