/- Any text read; a number printed: both sides. -/
import Derived.Test.YtnnilcadmakamaaDoorWordB
import Derived.Laws.IdiomStrings
namespace Go.Proofs.YtnnilcadmakamaaDoor
open Go.RowKit

set_option maxRecDepth 100000 in
set_option maxHeartbeats 1000000 in
theorem parse_none (s : ByteArray) (w : World) (h0 : s.size = 0) :
    Calls Tryd.prog 13 #[.string s] w fun e w' => ParseTold w w' (0, some (0, 6)) e := by
  have h1 : s.size < 1 := by omega
  have H0 := Lib.hid h0
  have t1 : ((s.size : Int) == 0) = true := by rw [beq_iff_eq]; omega
  clear h0
  go_enter Tryd.func13, Tryd.ntmps13
  go_wp2_with fail
  refine wp_loop_rounds 1 ?_
  rw [rounds_succ]
  go_wp2_with (go_at_call 30; refine (fail_any _ _ _ (by omega) (by omega)).mono ?_; rintro e w1 ⟨eb, rfl, he, hn⟩)
  go_ret2
  first
    | exact ⟨_, rfl, he, hn⟩
    | exact ⟨_, rfl, by rw [show ((s.size : Nat) : Int) = 0 by have := H0.out; omega] at he; exact he, hn⟩
set_option maxRecDepth 100000 in
set_option maxHeartbeats 1000000 in
theorem parse_bare (s : ByteArray) (w : World) (h0 : s.size = 2) (hx : isHex (bytesOf s) = true) :
    Calls Tryd.prog 13 #[.string s] w fun e w' => ParseTold w w' (0, some (2, 6)) e := by
  obtain ⟨g0, g1, h1, h2, h3⟩ := isHex_of s hx
  have h4 : s.size < 3 := by omega
  have H0 := Lib.hid h0
  have t1 : ((s.size : Int) == 2) = true := by rw [beq_iff_eq]; omega
  clear h0 hx
  go_enter Tryd.func13, Tryd.ntmps13
  go_wp2_with fail
  refine wp_loop_rounds 1 ?_
  rw [rounds_succ]
  go_wp2_with (go_at_call 30; refine (fail_any _ _ _ (by omega) (by omega)).mono ?_; rintro e w1 ⟨eb, rfl, he, hn⟩)
  go_ret2
  first
    | exact ⟨_, rfl, he, hn⟩
    | exact ⟨_, rfl, by rw [show ((s.size : Nat) : Int) = 2 by have := H0.out; omega] at he; exact he, hn⟩
theorem parse_any (s : ByteArray) (w : World) (hs : s.size ≤ maxLen) :
    Calls Tryd.prog 13 #[.string s] w fun e w' => ParseTold w w' (parseL (bytesOf s)) e := by
  have hl := bytes_len s
  unfold parseL
  cases hx : isHex (bytesOf s) with
  | true =>
    obtain ⟨g0, g1, h1, _, _⟩ := isHex_of s hx
    simp only [if_true]
    by_cases h2 : (bytesOf s).length = 2
    · rw [if_pos h2]; exact parse_bare s w (by omega) hx
    · rw [if_neg h2]; exact parse_hex s _ w hs hx (by omega) rfl
  | false =>
    simp only [Bool.false_eq_true, if_false]
    by_cases h2 : (bytesOf s).length = 0
    · rw [if_pos h2]; exact parse_none s w (by omega)
    · rw [if_neg h2]; exact parse_dec s _ w hs hx (by omega) rfl

set_option maxRecDepth 100000 in
set_option maxHeartbeats 1000000 in
theorem rparse_none (s : ByteArray) (w : World) (h0 : s.size = 0) :
    Calls Tryd.prog 14 #[.string s] w fun e w' => RParseTold w w' (0, some (0, 6)) e := by
  have h1 : s.size < 1 := by omega
  have H0 := Lib.hid h0
  have t1 : ((s.size : Int) == 0) = true := by rw [beq_iff_eq]; omega
  clear h0
  go_enter Tryd.func14, Tryd.ntmps14
  go_wp2_with fail
  refine wp_loop_rounds 1 ?_
  rw [rounds_succ]
  go_wp2_with (go_at_call 17; refine (no_ref _ _).mono ?_; rintro e w1 ⟨eb, rfl, he, hn⟩)
  go_ret2
  first
    | exact ⟨_, rfl, he, hn⟩
    | exact ⟨_, rfl, by rw [show ((s.size : Nat) : Int) = 0 by have := H0.out; omega] at he; exact he, hn⟩
set_option maxRecDepth 100000 in
set_option maxHeartbeats 1000000 in
theorem rparse_bare (s : ByteArray) (w : World) (h0 : s.size = 2) (hx : isHex (bytesOf s) = true) :
    Calls Tryd.prog 14 #[.string s] w fun e w' => RParseTold w w' (0, some (2, 6)) e := by
  obtain ⟨g0, g1, h1, h2, h3⟩ := isHex_of s hx
  have h4 : s.size < 3 := by omega
  have H0 := Lib.hid h0
  have t1 : ((s.size : Int) == 2) = true := by rw [beq_iff_eq]; omega
  clear h0 hx
  go_enter Tryd.func14, Tryd.ntmps14
  go_wp2_with fail
  refine wp_loop_rounds 1 ?_
  rw [rounds_succ]
  go_wp2_with (go_at_call 17; refine (no_ref _ _).mono ?_; rintro e w1 ⟨eb, rfl, he, hn⟩)
  go_ret2
  first
    | exact ⟨_, rfl, he, hn⟩
    | exact ⟨_, rfl, by rw [show ((s.size : Nat) : Int) = 2 by have := H0.out; omega] at he; exact he, hn⟩
theorem rparse_any (s : ByteArray) (w : World) (hs : s.size ≤ maxLen) :
    Calls Tryd.prog 14 #[.string s] w fun e w' => RParseTold w w' (parseL (bytesOf s)) e := by
  have hl := bytes_len s
  unfold parseL
  cases hx : isHex (bytesOf s) with
  | true =>
    obtain ⟨g0, g1, h1, _, _⟩ := isHex_of s hx
    simp only [if_true]
    by_cases h2 : (bytesOf s).length = 2
    · rw [if_pos h2]; exact rparse_bare s w (by omega) hx
    · rw [if_neg h2]; exact rparse_hex s _ w hs hx (by omega) rfl
  | false =>
    simp only [Bool.false_eq_true, if_false]
    by_cases h2 : (bytesOf s).length = 0
    · rw [if_pos h2]; exact rparse_none s w (by omega)
    · rw [if_neg h2]; exact rparse_dec s _ w hs hx (by omega) rfl

/-- The decimal digits of v, ahead of acc. -/
def digs (v : Nat) (acc : List UInt8) : List UInt8 := if v < 10 then UInt8.ofNat (48 + v) :: acc else digs (v / 10) (UInt8.ofNat (48 + v % 10) :: acc)
termination_by v
theorem digs_step (v : Nat) (acc : List UInt8) : digs v acc = if v / 10 = 0 then UInt8.ofNat (48 + v % 10) :: acc else digs (v / 10) (UInt8.ofNat (48 + v % 10) :: acc) := by
  rw [digs]
  by_cases h : v < 10
  · rw [if_pos h, if_pos (by omega), Nat.mod_eq_of_lt h]
  · rw [if_neg h, if_neg (by omega)]

theorem ret_str {a b : ByteArray} (h : a = b) : Ending.returned (.string a) = .returned (.string b) := by rw [h]
theorem digit_cat (d : Nat) (acc : List UInt8) (h : d < 10) : (⟨#[48, 49, 50, 51, 52, 53, 54, 55, 56, 57]⟩ : ByteArray).extract d (d + 1) ++ (⟨acc.toArray⟩ : ByteArray) = ⟨(UInt8.ofNat (48 + d) :: acc).toArray⟩ := by
  have h1 : (⟨#[48, 49, 50, 51, 52, 53, 54, 55, 56, 57]⟩ : ByteArray).extract d (d + 1) = ⟨#[UInt8.ofNat (48 + d)]⟩ := by
    match d, h with
    | 0, _ => rfl
    | 1, _ => rfl
    | 2, _ => rfl
    | 3, _ => rfl
    | 4, _ => rfl
    | 5, _ => rfl
    | 6, _ => rfl
    | 7, _ => rfl
    | 8, _ => rfl
    | 9, _ => rfl
    | n + 10, h => omega
  rw [h1]
  apply ByteArray.ext
  rw [ByteArray.data_append]
  show #[UInt8.ofNat (48 + d)] ++ acc.toArray = _
  simp
theorem pow_down {V m : Nat} (h : V < 10 ^ m) (h10 : 10 ≤ V) : 2 ≤ m ∧ V / 10 < 10 ^ (m - 1) := by
  match m, h with
  | 0, h => simp at h; omega
  | 1, h => simp at h; omega
  | n + 2, h =>
    refine ⟨by omega, ?_⟩
    rw [Nat.pow_succ] at h
    show V / 10 < 10 ^ (n + 1)
    omega

set_option maxRecDepth 100000 in
set_option maxHeartbeats 1000000 in
theorem rprint_any (v : Nat) (w : World) (hv : v < 18446744073709551616) :
    Calls Tryd.prog 11 #[.int .u64 v] w fun e w' => e = .returned (.string ⟨(digs v []).toArray⟩) ∧ w = w' := by
  generalize hD : digs v [] = D
  have HD := Lib.hid hD
  clear hD
  go_enter Tryd.func11, Tryd.ntmps11
  go_wp2_with fail
  go_loop [0, 3] (fun x s => ∃ (V m : Nat) (acc : List UInt8), x = .int .u64 V ∧ s = .string ⟨acc.toArray⟩ ∧ V < 18446744073709551616 ∧ (V < 10 ^ m ∧ 1 ≤ m ∧ acc.length + m = 20) ∧ digs V acc = D) (fun x _ => (intOf x).toNat)
  case atStart => exact ⟨v, 20, [], rfl, rfl, hv, ⟨by have h : (10 : Nat) ^ 20 = 100000000000000000000 := by decide
                                                      omega, by omega, rfl⟩, HD.out⟩
  case round =>
    obtain ⟨V, m, acc, rfl, rfl, hV, ⟨hm0, hm1, hm2⟩, hr⟩ := hrel
    rw [digs_step] at hr
    have hcat := digit_cat (V % 10) acc (by omega)
    have hsz : (⟨acc.toArray⟩ : ByteArray).size ≤ 20 := by show acc.toArray.size ≤ 20; rw [List.size_toArray]; omega
    have HCAT := Lib.hid hcat
    have HPW := Lib.hid hm0
    clear hcat hm0
    by_cases h10 : V < 10
    · rw [if_pos (by omega)] at hr
      have HRR := Lib.hid hr
      clear hr
      have t1 : ((V : Int) / 10 == 0) = true := by rw [beq_iff_eq]; omega
      go_wp2
      go_ret
      exact ⟨ret_str (by rw [← HRR.out]; exact HCAT.out), rfl⟩
    · rw [if_neg (by omega)] at hr
      have HRR := Lib.hid hr
      clear hr
      have t1 : ((V : Int) / 10 == 0) = false := by rw [beq_eq_false_iff_ne]; omega
      go_wp2
      have hp := pow_down HPW.out (by omega)
      refine ⟨⟨V / 10, m - 1, _, ?_, by rw [HCAT.out], by omega, ⟨hp.2, by omega, by simp; omega⟩, HRR.out⟩, ?_⟩
      · go_num
      · simp [intOf]; omega

abbrev bytesV (l : List UInt8) : List Value := l.map fun c => .int .u8 (c.toNat : Int)
theorem set_mid : ∀ (pre : List Value) (r : List Value) (x : Value) (m : Nat), pre.length = m + 1 → (pre ++ r).set m x = pre.take m ++ (x :: r)
  | [], _, _, _, h => by simp at h
  | [a], r, x, m, h => by
    obtain rfl : m = 0 := by simpa using h.symm
    rfl
  | a :: b :: l, r, x, m, h => by
    obtain ⟨n, rfl⟩ : ∃ n, m = n + 1 := ⟨m - 1, by simp at h; omega⟩
    have := set_mid (b :: l) r x n (by simpa using h)
    simp only [List.cons_append, List.set_cons_succ, List.take_succ_cons] at this ⊢
    rw [this]
set_option maxRecDepth 100000 in
theorem slice_b20 (B q : Nat) (w : World) (h : q < 20) : (Instr.sliceAt 49 (.pointer (some ⟨B, 0, none⟩)) (some (.int .i64 (q : Int))) none none).run Tryd.prog w = .ok (.slice (some ⟨B, q, none⟩) (20 - q) (20 - q)) w := by
  have hal : Tryd.prog.arrayLen 49 = 20 := by kernel_rfl
  have hsz : (sizeOf (Tryd.prog.elem 49)).run Tryd.prog w = .ok 1 w := by kernel_rfl
  rw [run_sliceAt_array_l w 49 ⟨B, 0, none⟩ (by kernel_rfl) .i64 q (by omega) (by rw [hal]; omega), hsz, hal]
  simp only [Result.andThen, slicedAt, Int.toNat_natCast]
  rw [if_neg (by omega)]
  congr 3
  unfold Addr.add
  split <;> simp_all
theorem conv_at (pre : List Value) (acc : List UInt8) (q : Nat) (x : UInt8) (j : Nat) (hp : pre.length = q + 1) (hj : j < (x :: acc).length) : (pre.take q ++ (.int .u8 (x.toNat : Int) :: bytesV acc))[q + j]? = some (.int .u8 ((x :: acc)[j].toNat : Int)) := by
  rw [List.getElem?_append_right (by simp; omega)]
  rw [show q + j - (pre.take q).length = j by simp; omega]
  match j, hj with
  | 0, _ => rfl
  | j + 1, hj => simp at hj; simp [hj]
theorem ofNat_digit (d : Nat) (h : d < 10) : ((UInt8.ofNat (48 + d)).toNat : Int) = 48 + (d : Int) := by
  rw [UInt8.toNat_ofNat']; omega

set_option maxRecDepth 100000 in
set_option maxHeartbeats 2000000 in
theorem print_any (v : Nat) (w : World) (hv : v < 18446744073709551616) :
    Calls Tryd.prog 10 #[.int .u64 v] w fun e w' => e = .returned (.string ⟨(digs v []).toArray⟩) ∧ New w w' := by
  generalize hD : digs v [] = D
  have HD := Lib.hid hD
  clear hD
  go_enter Tryd.func10, Tryd.ntmps10
  go_wp2_with fail
  go_loopw [0, 4] (fun x i wr => ∃ (V m : Nat) (acc : List UInt8), x = .int .u64 V ∧ i = .int .i64 m ∧ V < 18446744073709551616 ∧ (V < 10 ^ m ∧ 1 ≤ m ∧ acc.length + m = 20) ∧ (∃ pre : List Value, pre.length = m ∧ Arr wr w.heap.size (pre ++ bytesV acc)) ∧ digs V acc = D ∧ New w wr) (fun x _ _ => (intOf x).toNat)
  case atStart => exact ⟨v, 20, [], rfl, rfl, hv, ⟨by have h : (10 : Nat) ^ 20 = 100000000000000000000 := by decide
                                                      omega, by omega, rfl⟩, ⟨List.replicate 20 (.int .u8 0), rfl, Arr.new _ _ _⟩, HD.out, (Fr.refl _ _).alloc _⟩
  case round =>
    obtain ⟨V, m, acc, rfl, rfl, hV, ⟨hm0, hm1, hm2⟩, ⟨pre, hp1, ha⟩, hr, hn⟩ := hrel
    obtain ⟨q, rfl⟩ : ∃ q, m = q + 1 := ⟨m - 1, by omega⟩
    rw [digs_step] at hr
    have hod := ofNat_digit (V % 10) (by omega)
    have hlen : (pre ++ bytesV acc).length = 20 := by simp [hp1]; omega
    have hc := ha.at q (by omega)
    have hfr := ha.free
    have hset := ha.set q (.int .u8 ((UInt8.ofNat (48 + V % 10)).toNat : Int))
    rw [set_mid pre _ _ q hp1] at hset
    rw [hod] at hset
    generalize (pre ++ bytesV acc)[q]'(by omega) = x0 at hc
    have HSET := Lib.hid hset
    have HOD := Lib.hid hod
    have HPW := Lib.hid hm0
    have HN := Lib.hid hn
    have HP := Lib.hid hp1
    generalize hB : w.heap.size = B0 at hc hfr HSET ⊢
    have HB := Lib.hid hB
    clear hset hod hm0 hn ha hlen hp1 hB
    by_cases h10 : V < 10
    · rw [if_pos (by omega)] at hr
      have HRR := Lib.hid hr
      clear hr
      have t1 : ((V : Int) / 10 == 0) = true := by rw [beq_iff_eq]; omega
      have hsl := fun w => slice_b20 B0 q w (by omega)
      have hcv := run_convert_bytes_back (P := Tryd.prog) (wr.setCell ⟨B0, q, none⟩ (.int .u8 (48 + (V : Int) % 10))) 50 9 5 ⟨B0, q, none⟩ (20 - q) (UInt8.ofNat (48 + V % 10) :: acc) Tryd.underlying50 Tryd.underlying5 Tryd.underlying9 (fun j hj => by
        have := HSET.out.cell (q + j) _ (by have h1 := conv_at pre acc q (UInt8.ofNat (48 + V % 10)) j HP.out hj; rw [HOD.out] at h1; exact h1)
        unfold Addr.add
        split
        · rename_i h0; subst h0; exact this
        · exact this)
      rw [show (UInt8.ofNat (48 + V % 10) :: acc).length = 20 - q by simp; omega, HRR.out] at hcv
      go_wp2
      go_ret
      exact ⟨rfl, HN.out.setCell (fun (h : B0 < w.heap.size) => by have := HB.out; omega) _⟩
    · rw [if_neg (by omega)] at hr
      have HRR := Lib.hid hr
      clear hr
      have t1 : ((V : Int) / 10 == 0) = false := by rw [beq_eq_false_iff_ne]; omega
      go_wp2
      have hp := pow_down HPW.out (by omega)
      refine ⟨⟨V / 10, q, _, ?_, rfl, by omega, ⟨show V / 10 < 10 ^ q from hp.2, by omega, by simp; omega⟩, ⟨pre.take q, by have := HP.out; simp; omega, ?_⟩, HRR.out, HN.out.setCell (fun (h : B0 < w.heap.size) => by have := HB.out; omega) _⟩, ?_⟩
      · go_num
      · have := HSET.out
        simp only [bytesV, List.map_cons]
        rw [HOD.out]; exact this
      · simp [intOf]; omega

end Go.Proofs.YtnnilcadmakamaaDoor
