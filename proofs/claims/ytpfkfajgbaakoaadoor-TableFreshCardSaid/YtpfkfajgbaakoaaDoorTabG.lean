/- A thread is born, on both sides. -/
import Derived.Test.YtpfkfajgbaakoaaDoorTabF
namespace Go.Proofs.YtpfkfajgbaakoaaDoor
open Go.RowKit

theorem pborn_rep {b rb q home : Nat} {l : List TR} {r : TR} {w : World} {x y : Int} (hr : PRep w b rb l) (hp : l[q]? = some r) (hx : x = (q + 64 * (r.times + 1) : Nat)) (hy : y = (r.times + 1 : Nat)) :
    PRep (((((((((w.setCell ⟨rb, q * 10, none⟩ (.int .u64 y)).setCell ⟨rb, q * 10 + 1, none⟩ (.bool true)).setCell ⟨rb, q * 10 + 3, none⟩ (.int .u64 x)).setCell ⟨rb, q * 10 + 3 + 1, none⟩ (.int .i64 1)).setCell ⟨rb, q * 10 + 3 + 2, none⟩ (.int .u64 home)).setCell ⟨rb, q * 10 + 3 + 3, none⟩ (.int .u64 0)).setCell ⟨rb, q * 10 + 3 + 4, none⟩ (.int .u64 0)).setCell ⟨rb, q * 10 + 3 + 5, none⟩ (.bool false)).setCell ⟨rb, q * 10 + 3 + 6, none⟩ (.bool false)) b rb (l.set q (bornR r q home)) := by
  subst hx; subst hy
  have hlt := (List.getElem?_eq_some_iff.1 hp).1
  have e0 := hr.put (i := 0) (r' := { r with times := r.times + 1 }) (v := .int .u64 ((r.times + 1 : Nat) : Int)) hp (by omega) rfl
  have e1 := e0.put2 (i := 1) (r' := { r with times := r.times + 1, taken := true }) (v := .bool true) hlt (by omega) rfl
  have e2 := e1.put2 (i := 3) (r' := { r with times := r.times + 1, taken := true, id := q + 64 * (r.times + 1) }) (v := .int .u64 ((q + 64 * (r.times + 1) : Nat) : Int)) hlt (by omega) rfl
  have e3 := e2.put2 (i := 4) (r' := { r with times := r.times + 1, taken := true, id := q + 64 * (r.times + 1), state := 1 }) (v := .int .i64 1) hlt (by omega) rfl
  have e4 := e3.put2 (i := 5) (r' := { r with times := r.times + 1, taken := true, id := q + 64 * (r.times + 1), state := 1, home := home }) (v := .int .u64 home) hlt (by omega) rfl
  have e5 := e4.put2 (i := 6) (r' := { r with times := r.times + 1, taken := true, id := q + 64 * (r.times + 1), state := 1, home := home, value := 0 }) (v := .int .u64 0) hlt (by omega) rfl
  have e6 := e5.put2 (i := 7) (r' := { r with times := r.times + 1, taken := true, id := q + 64 * (r.times + 1), state := 1, home := home, value := 0, joiner := 0 }) (v := .int .u64 0) hlt (by omega) rfl
  have e7 := e6.put2 (i := 8) (r' := { r with times := r.times + 1, taken := true, id := q + 64 * (r.times + 1), state := 1, home := home, value := 0, joiner := 0, loose := false }) (v := .bool false) hlt (by omega) rfl
  exact e7.put2 (i := 9) (r' := bornR r q home) (v := .bool false) hlt (by omega) rfl

set_option maxRecDepth 100000 in
set_option maxHeartbeats 1000000 in
theorem pborn_any (b rb : Nat) (l : List TR) (home : Nat) (w : World) (hr : PRep w b rb l) (ht : ∀ r ∈ l, r.times < 999999) :
    Calls Tryd.prog 14 #[.pointer (some ⟨b, 0, none⟩), .int .u64 home] w fun e w' => ∃ v, e = .returned (.tuple #[.int .u64 (bornI l : Nat), v]) ∧ Says w' tabL v (bornE l) ∧ PRep w' b rb (bornL l home) ∧ Fr (fun k => bornE l = none ∧ k = rb) w w' := by
  have c0 := hr.hd.cell 0 _ rfl
  have l1 := hr.hd.lt
  have hlen := hr.len
  have hrow : ∀ j x, l[j]? = some x → w.cell? ⟨rb, j * 10 + 1, none⟩ = some (.bool x.taken) := fun j x hx => hr.rows.row pC_len (p := j) (a := x) hx 1 _ rfl
  have HROW := Lib.hid hrow
  have hrl := hr.rows.lt
  have hne := hr.ne
  have HR := Lib.hid hr
  unfold bornI bornE bornL
  rcases free_cases l with ⟨h1, h2⟩ | ⟨p, r, h1, h2, h3, h4⟩
  · simp only [h1]
    have HNO := Lib.hid h2
    obtain ⟨n, hn⟩ : ∃ n, l.length = n := ⟨_, rfl⟩
    rw [hn] at c0 hlen
    have HN := Lib.hid hn
    clear hr hrow h1 h2 hn ht
    go_enter Tryd.func14, Tryd.ntmps14
    go_wp2_with fail
    go_loop [13] (fun i => ∃ q : Nat, q ≤ n ∧ i = .int .i64 q) (fun i => n - (intOf i).toNat)
    case atStart => exact ⟨0, by omega, rfl⟩
    case round =>
      obtain ⟨q, hq, rfl⟩ := hrel
      by_cases hlt : q < n
      · obtain ⟨x, hx⟩ : ∃ x, l[q]? = some x := ⟨l[q]'(by rw [HN.out]; omega), by simp⟩
        have x0 := HROW.out q x hx
        rw [HNO.out x (List.mem_of_getElem? hx)] at x0
        clear hx
        go_wp2_with fail
        go_round
        case rel => exact ⟨q + 1, by omega, by go_num⟩
        case measure => simp [intOf]; omega
      · go_wp2_with (go_at_call 31; refine (fail_any _ _ (by omega) (by omega)).mono ?_; rintro e w' ⟨v, rfl, he, hn⟩)
        go_ret2
        exact ⟨_, rfl, he, HR.out.new hn, hn.mono (fun _ _ h => h.elim)⟩
  · simp only [h1, h2, Option.elim_some, Option.getD_some]
    have HNO := Lib.hid h4
    have HP := Lib.hid h2
    have hpl := (List.getElem?_eq_some_iff.1 h2).1
    have hrt := ht r (List.mem_of_getElem? h2)
    obtain ⟨n, hn⟩ : ∃ n, l.length = n := ⟨_, rfl⟩
    rw [hn] at c0 hlen hpl
    have HN := Lib.hid hn
    have H3 := Lib.hid h3
    clear hr hrow h1 h2 hn ht h3 h4
    go_enter Tryd.func14, Tryd.ntmps14
    go_wp2_with fail
    go_loop [13] (fun i => ∃ q : Nat, q ≤ p ∧ i = .int .i64 q) (fun i => n - (intOf i).toNat)
    case atStart => exact ⟨0, by omega, rfl⟩
    case round =>
      obtain ⟨q, hq, rfl⟩ := hrel
      by_cases hlt : q < p
      · obtain ⟨x, hx⟩ : ∃ x, l[q]? = some x := ⟨l[q]'(by rw [HN.out]; omega), by simp⟩
        have x0 := HROW.out q x hx
        rw [HNO.out q x hlt hx] at x0
        clear hx
        go_wp2_with fail
        go_round
        case rel => exact ⟨q + 1, by omega, by go_num⟩
        case measure => simp [intOf]; omega
      · obtain rfl : q = p := by omega
        have x0 : w.cell? ⟨rb, q * 10, none⟩ = some (.int .u64 r.times) := HR.out.rows.row pC_len HP.out 0 _ rfl
        have x1 : w.cell? ⟨rb, q * 10 + 1, none⟩ = some (.bool false) := by have := HROW.out q r HP.out; rwa [H3.out] at this
        have x3 : w.cell? ⟨rb, q * 10 + 3, none⟩ = some (.int .u64 r.id) := HR.out.rows.row pC_len HP.out 3 _ rfl
        have x4 : w.cell? ⟨rb, q * 10 + 4, none⟩ = some (.int .i64 r.state) := HR.out.rows.row pC_len HP.out 4 _ rfl
        have x5 : w.cell? ⟨rb, q * 10 + 5, none⟩ = some (.int .u64 r.home) := HR.out.rows.row pC_len HP.out 5 _ rfl
        have x6 : w.cell? ⟨rb, q * 10 + 6, none⟩ = some (.int .u64 r.value) := HR.out.rows.row pC_len HP.out 6 _ rfl
        have x7 : w.cell? ⟨rb, q * 10 + 7, none⟩ = some (.int .u64 r.joiner) := HR.out.rows.row pC_len HP.out 7 _ rfl
        have x8 : w.cell? ⟨rb, q * 10 + 8, none⟩ = some (.bool r.loose) := HR.out.rows.row pC_len HP.out 8 _ rfl
        have x9 : w.cell? ⟨rb, q * 10 + 9, none⟩ = some (.bool r.stepping) := HR.out.rows.row pC_len HP.out 9 _ rfl
        have fz := HR.out.rows.free
        go_wp2
        go_ret2
        have hx : (q : Int) + 64 * ((r.times : Int) + 1) = (q + 64 * (r.times + 1) : Nat) := by omega
        refine ⟨_, congrArg (fun x => Ending.returned (.tuple #[.int .u64 x, .nilIface])) hx, rfl, pborn_rep HR.out HP.out hx (by omega), ?_⟩
        exact (((((((((setFr.trans setFr).trans setFr).trans setFr).trans setFr).trans setFr).trans setFr).trans setFr).trans setFr)).mono (fun _ _ h => h)

theorem dborn_rep {b rb q home : Nat} {l : List TR} {r : TR} {w : World} {x y : Int} (hr : DRep w b rb l) (hp : l[q]? = some r) (hx : x = (q + 64 * (r.times + 1) : Nat)) (hy : y = (r.times + 1 : Nat)) :
    DRep ((((((((w.setCell ⟨rb, q * 9 + 8, none⟩ (.int .i64 y)).setCell ⟨rb, q * 9, none⟩ (.int .u64 x)).setCell ⟨rb, q * 9 + 1, none⟩ (.int .i64 1)).setCell ⟨rb, q * 9 + 2, none⟩ (.int .u64 home)).setCell ⟨rb, q * 9 + 3, none⟩ (.int .u64 0)).setCell ⟨rb, q * 9 + 4, none⟩ (.int .u64 0)).setCell ⟨rb, q * 9 + 5, none⟩ (.bool false)).setCell ⟨rb, q * 9 + 6, none⟩ (.bool false)) b rb (l.set q (bornR r q home)) := by
  subst hx; subst hy
  have hlt := (List.getElem?_eq_some_iff.1 hp).1
  have e0 := hr.put (i := 8) (r' := { r with times := r.times + 1, taken := true }) (v := .int .i64 ((r.times + 1 : Nat) : Int)) hp (by omega) rfl
  have e2 := e0.put2 (i := 0) (r' := { r with times := r.times + 1, taken := true, id := q + 64 * (r.times + 1) }) (v := .int .u64 ((q + 64 * (r.times + 1) : Nat) : Int)) hlt (by omega) rfl
  have e3 := e2.put2 (i := 1) (r' := { r with times := r.times + 1, taken := true, id := q + 64 * (r.times + 1), state := 1 }) (v := .int .i64 1) hlt (by omega) rfl
  have e4 := e3.put2 (i := 2) (r' := { r with times := r.times + 1, taken := true, id := q + 64 * (r.times + 1), state := 1, home := home }) (v := .int .u64 home) hlt (by omega) rfl
  have e5 := e4.put2 (i := 3) (r' := { r with times := r.times + 1, taken := true, id := q + 64 * (r.times + 1), state := 1, home := home, value := 0 }) (v := .int .u64 0) hlt (by omega) rfl
  have e6 := e5.put2 (i := 4) (r' := { r with times := r.times + 1, taken := true, id := q + 64 * (r.times + 1), state := 1, home := home, value := 0, joiner := 0 }) (v := .int .u64 0) hlt (by omega) rfl
  have e7 := e6.put2 (i := 5) (r' := { r with times := r.times + 1, taken := true, id := q + 64 * (r.times + 1), state := 1, home := home, value := 0, joiner := 0, loose := false }) (v := .bool false) hlt (by omega) rfl
  exact e7.put2 (i := 6) (r' := bornR r q home) (v := .bool false) hlt (by omega) rfl

set_option maxRecDepth 100000 in
set_option maxHeartbeats 1000000 in
theorem dborn_any (b rb : Nat) (l : List TR) (home : Nat) (w : World) (hr : DRep w b rb l) (hl : Placed l) (ht : ∀ r ∈ l, r.times < 999999) :
    Calls Tryd.prog 43 #[.pointer (some ⟨b, 0, none⟩), .int .u64 home] w fun e w' => ∃ v, e = .returned (.tuple #[.int .u64 (bornI l : Nat), v]) ∧ SaysF w' tabL v (bornE l) ∧ DRep w' b rb (bornL l home) ∧ Fr (fun k => bornE l = none ∧ k = rb) w w' := by
  have c0 := hr.hd.cell 0 _ rfl
  have l1 := hr.hd.lt
  have hlen := hr.len
  have hrow : ∀ j x, l[j]? = some x → w.cell? ⟨rb, j * 9, none⟩ = some (.int .u64 x.id) := fun j x hx => hr.rows.row dC_len (p := j) (a := x) hx 0 _ rfl
  have hno : ∀ (j : Nat) (x : TR), l[j]? = some x → x.taken = true → ((x.id : Int) == 0) = false := fun j x hx h => by have := (hl j x hx).1 h; rw [beq_eq_false_iff_ne]; omega
  have HROW := Lib.hid hrow
  have hrl := hr.rows.lt
  have hne := hr.ne
  have HR := Lib.hid hr
  have HZ := Lib.hid hno
  unfold bornI bornE bornL
  rcases free_cases l with ⟨h1, h2⟩ | ⟨p, r, h1, h2, h3, h4⟩
  · simp only [h1]
    have HNO := Lib.hid h2
    obtain ⟨n, hn⟩ : ∃ n, l.length = n := ⟨_, rfl⟩
    rw [hn] at c0 hlen
    have HN := Lib.hid hn
    clear hr hrow h1 h2 hn ht hl hno
    go_enter Tryd.func43, Tryd.ntmps43
    go_wp2_with fail
    go_loop [6] (fun i => ∃ q : Nat, q ≤ n ∧ i = .int .i64 q) (fun i => n - (intOf i).toNat)
    case atStart => exact ⟨0, by omega, rfl⟩
    case round =>
      obtain ⟨q, hq, rfl⟩ := hrel
      by_cases hlt : q < n
      · obtain ⟨x, hx⟩ : ∃ x, l[q]? = some x := ⟨l[q]'(by rw [HN.out]; omega), by simp⟩
        have x0 := HROW.out q x hx
        have t1 := HZ.out q x hx (HNO.out x (List.mem_of_getElem? hx))
        clear hx
        go_wp2_with fail
        go_round
        case rel => exact ⟨q + 1, by omega, by go_num⟩
        case measure => simp [intOf]; omega
      · go_wp2_with (go_at_call 50; refine (dfail_any _ _ (by omega) (by omega)).mono ?_; rintro e w' ⟨v, rfl, he, hn⟩)
        go_ret2
        exact ⟨_, rfl, he, HR.out.new hn, hn.mono (fun _ _ h => h.elim)⟩
  · simp only [h1, h2, Option.elim_some, Option.getD_some]
    have HNO := Lib.hid h4
    have HP := Lib.hid h2
    have hpl := (List.getElem?_eq_some_iff.1 h2).1
    have hrt := ht r (List.mem_of_getElem? h2)
    have hz0 : ((r.id : Int) == 0) = true := by rw [(hl p r h2).2 h3]; rfl
    obtain ⟨n, hn⟩ : ∃ n, l.length = n := ⟨_, rfl⟩
    rw [hn] at c0 hlen hpl
    have HN := Lib.hid hn
    clear hr hrow h1 h2 hn ht h3 h4 hl hno
    go_enter Tryd.func43, Tryd.ntmps43
    go_wp2_with fail
    go_loop [6] (fun i => ∃ q : Nat, q ≤ p ∧ i = .int .i64 q) (fun i => n - (intOf i).toNat)
    case atStart => exact ⟨0, by omega, rfl⟩
    case round =>
      obtain ⟨q, hq, rfl⟩ := hrel
      by_cases hlt : q < p
      · obtain ⟨x, hx⟩ : ∃ x, l[q]? = some x := ⟨l[q]'(by rw [HN.out]; omega), by simp⟩
        have x0 := HROW.out q x hx
        have t1 := HZ.out q x hx (HNO.out q x hlt hx)
        clear hx
        go_wp2_with fail
        go_round
        case rel => exact ⟨q + 1, by omega, by go_num⟩
        case measure => simp [intOf]; omega
      · obtain rfl : q = p := by omega
        have x0 : w.cell? ⟨rb, q * 9, none⟩ = some (.int .u64 r.id) := HR.out.rows.row dC_len HP.out 0 _ rfl
        have x1 : w.cell? ⟨rb, q * 9 + 1, none⟩ = some (.int .i64 r.state) := HR.out.rows.row dC_len HP.out 1 _ rfl
        have x2 : w.cell? ⟨rb, q * 9 + 2, none⟩ = some (.int .u64 r.home) := HR.out.rows.row dC_len HP.out 2 _ rfl
        have x3 : w.cell? ⟨rb, q * 9 + 3, none⟩ = some (.int .u64 r.value) := HR.out.rows.row dC_len HP.out 3 _ rfl
        have x4 : w.cell? ⟨rb, q * 9 + 4, none⟩ = some (.int .u64 r.joiner) := HR.out.rows.row dC_len HP.out 4 _ rfl
        have x5 : w.cell? ⟨rb, q * 9 + 5, none⟩ = some (.bool r.loose) := HR.out.rows.row dC_len HP.out 5 _ rfl
        have x6 : w.cell? ⟨rb, q * 9 + 6, none⟩ = some (.bool r.stepping) := HR.out.rows.row dC_len HP.out 6 _ rfl
        have x8 : w.cell? ⟨rb, q * 9 + 8, none⟩ = some (.int .i64 r.times) := HR.out.rows.row dC_len HP.out 8 _ rfl
        have fz := HR.out.rows.free
        go_wp2
        go_ret2
        have hx : (q : Int) + 64 * ((r.times : Int) + 1) = (q + 64 * (r.times + 1) : Nat) := by omega
        refine ⟨_, congrArg (fun x => Ending.returned (.tuple #[.int .u64 x, .pointer none])) hx, rfl, dborn_rep HR.out HP.out hx (by omega), ?_⟩
        exact ((((((((setFr.trans setFr).trans setFr).trans setFr).trans setFr).trans setFr).trans setFr).trans setFr)).mono (fun _ _ h => h)

end Go.Proofs.YtpfkfajgbaakoaaDoor
