/- Words cut, summed, taken away; a digit's worth: on both sides. -/
import Derived.Test.YtnnilcadmakamaaDoorSays
import Derived.Lib.Hide
namespace Go.Proofs.YtnnilcadmakamaaDoor
open Go.RowKit

/-- v modulo 2^W, W being 32 or 64; else 0. -/
def cutZ (W : Int) (v : Nat) : Nat := if W = 32 then v % 4294967296 else if W = 64 then v else 0
theorem cutZ_lt (W : Int) (v : Nat) (hv : v < 18446744073709551616) : cutZ W v < 18446744073709551616 := by unfold cutZ; split <;> (try split) <;> omega
theorem wrapU (a : Nat) : IntKind.u64.wrap (a : Int) = ((a % 18446744073709551616 : Nat) : Int) := by
  simp [IntKind.wrap, IntKind.signed, IntKind.bits]
theorem wrapUI (a : Int) : IntKind.u64.wrap a = a % 18446744073709551616 := by
  simp [IntKind.wrap, IntKind.signed, IntKind.bits]
def sumZ (W : Int) (a b : Nat) : Nat := cutZ W ((cutZ W a + cutZ W b) % 18446744073709551616)
def lessZ (W : Int) (a b : Nat) : Nat := cutZ W ((cutZ W a + 18446744073709551616 - cutZ W b) % 18446744073709551616)
theorem sumZ_lt (W : Int) (a b : Nat) : sumZ W a b < 18446744073709551616 := cutZ_lt _ _ (Nat.mod_lt _ (by omega))
theorem lessZ_lt (W : Int) (a b : Nat) : lessZ W a b < 18446744073709551616 := cutZ_lt _ _ (Nat.mod_lt _ (by omega))

set_option maxRecDepth 100000 in
set_option maxHeartbeats 400000 in
theorem cut_any (W : Int) (v : Nat) (w : World) (hv : v < 18446744073709551616) :
    Calls Tryd.prog 20 #[.int .i64 W, .int .u64 v] w fun e w' => e = .returned (.int .u64 (cutZ W v : Nat)) ∧ w = w' := by
  rcases (show W = 32 ∨ W = 64 ∨ (W ≠ 32 ∧ W ≠ 64) by omega) with rfl | rfl | ⟨h1, h2⟩
  · have hb := and_low32 (v : Int) (by omega) (by omega)
    go_enter Tryd.func20, Tryd.ntmps20
    go_wp2
    go_ret
    exact ⟨ret_int (by show _ = ((v % 4294967296 : Nat) : Int); omega), rfl⟩
  · go_enter Tryd.func20, Tryd.ntmps20
    go_wp2
    go_ret
    exact ⟨rfl, rfl⟩
  · have t1 : (W == 32) = false := beq_eq_false_iff_ne.2 h1
    have t2 : (W == 64) = false := beq_eq_false_iff_ne.2 h2
    have hz : cutZ W v = 0 := by unfold cutZ; rw [if_neg h1, if_neg h2]
    rw [hz]
    clear h1 h2 hz
    go_enter Tryd.func20, Tryd.ntmps20
    go_wp2
    go_ret
    exact ⟨rfl, rfl⟩

set_option maxRecDepth 100000 in
set_option maxHeartbeats 400000 in
theorem rcut_any (W : Int) (v : Nat) (w : World) (hv : v < 18446744073709551616) :
    Calls Tryd.prog 22 #[.int .i64 W, .int .u64 v] w fun e w' => e = .returned (.int .u64 (cutZ W v : Nat)) ∧ w = w' := by
  rcases (show W = 32 ∨ W = 64 ∨ (W ≠ 32 ∧ W ≠ 64) by omega) with rfl | rfl | ⟨h1, h2⟩
  · go_enter Tryd.func22, Tryd.ntmps22
    go_wp2
    go_ret
    exact ⟨ret_int (by show _ = ((v % 4294967296 : Nat) : Int); omega), rfl⟩
  · go_enter Tryd.func22, Tryd.ntmps22
    go_wp2
    go_ret
    exact ⟨rfl, rfl⟩
  · have t1 : (W == 32) = false := beq_eq_false_iff_ne.2 h1
    have t2 : (W == 64) = false := beq_eq_false_iff_ne.2 h2
    have hz : cutZ W v = 0 := by unfold cutZ; rw [if_neg h1, if_neg h2]
    rw [hz]
    clear h1 h2 hz
    go_enter Tryd.func22, Tryd.ntmps22
    go_wp2
    go_ret
    exact ⟨rfl, rfl⟩

set_option maxRecDepth 100000 in
set_option maxHeartbeats 400000 in
theorem sum_any (W : Int) (a b : Nat) (w : World) (ha : a < 18446744073709551616) (hb : b < 18446744073709551616) :
    Calls Tryd.prog 18 #[.int .i64 W, .int .u64 a, .int .u64 b] w fun e w' => e = .returned (.int .u64 (sumZ W a b : Nat)) ∧ w = w' := by
  have h1 := cutZ_lt W a ha
  have h2 := cutZ_lt W b hb
  go_enter Tryd.func18, Tryd.ntmps18
  go_wp2_with fail
  refine (cut_any W a _ ha).mono ?_
  rintro e w' ⟨rfl, rfl⟩
  go_wp2_with fail
  refine (cut_any W b _ hb).mono ?_
  rintro e w' ⟨rfl, rfl⟩
  generalize hx : cutZ W a = x at h1 ⊢
  generalize hy : cutZ W b = y at h2 ⊢
  have HX := Lib.hid hx
  have HY := Lib.hid hy
  clear hx hy
  go_wp2_with fail
  rw [show IntKind.u64.wrap ((x : Int) + (y : Int)) = (((x + y) % 18446744073709551616 : Nat) : Int) from wrapU (x + y)]
  refine (cut_any W _ _ (Nat.mod_lt _ (by omega))).mono ?_
  rintro e w' ⟨rfl, rfl⟩
  go_wp2
  go_ret
  exact ⟨ret_int (by rw [← HX.out, ← HY.out]; rfl), rfl⟩

set_option maxRecDepth 100000 in
set_option maxHeartbeats 400000 in
theorem less_any (W : Int) (a b : Nat) (w : World) (ha : a < 18446744073709551616) (hb : b < 18446744073709551616) :
    Calls Tryd.prog 19 #[.int .i64 W, .int .u64 a, .int .u64 b] w fun e w' => e = .returned (.int .u64 (lessZ W a b : Nat)) ∧ w = w' := by
  have h1 := cutZ_lt W a ha
  have h2 := cutZ_lt W b hb
  go_enter Tryd.func19, Tryd.ntmps19
  go_wp2_with fail
  refine (cut_any W a _ ha).mono ?_
  rintro e w' ⟨rfl, rfl⟩
  go_wp2_with fail
  refine (cut_any W b _ hb).mono ?_
  rintro e w' ⟨rfl, rfl⟩
  generalize hx : cutZ W a = x at h1 ⊢
  generalize hy : cutZ W b = y at h2 ⊢
  have HX := Lib.hid hx
  have HY := Lib.hid hy
  clear hx hy
  go_wp2_with fail
  rw [show IntKind.u64.wrap ((x : Int) - (y : Int)) = (((x + 18446744073709551616 - y) % 18446744073709551616 : Nat) : Int) by rw [wrapUI]; omega]
  refine (cut_any W _ _ (Nat.mod_lt _ (by omega))).mono ?_
  rintro e w' ⟨rfl, rfl⟩
  go_wp2
  go_ret
  exact ⟨ret_int (by rw [← HX.out, ← HY.out]; rfl), rfl⟩

set_option maxRecDepth 100000 in
set_option maxHeartbeats 400000 in
theorem rsum_any (W : Int) (a b : Nat) (w : World) (ha : a < 18446744073709551616) (hb : b < 18446744073709551616) :
    Calls Tryd.prog 24 #[.int .i64 W, .int .u64 a, .int .u64 b] w fun e w' => e = .returned (.int .u64 (sumZ W a b : Nat)) ∧ w = w' := by
  have h1 := cutZ_lt W a ha
  have h2 := cutZ_lt W b hb
  go_enter Tryd.func24, Tryd.ntmps24
  go_wp2_with fail
  refine (rcut_any W a _ ha).mono ?_
  rintro e w' ⟨rfl, rfl⟩
  go_wp2_with fail
  refine (rcut_any W b _ hb).mono ?_
  rintro e w' ⟨rfl, rfl⟩
  generalize hx : cutZ W a = x at h1 ⊢
  generalize hy : cutZ W b = y at h2 ⊢
  have HX := Lib.hid hx
  have HY := Lib.hid hy
  clear hx hy
  go_wp2_with fail
  rw [show IntKind.u64.wrap ((x : Int) + (y : Int)) = (((x + y) % 18446744073709551616 : Nat) : Int) from wrapU (x + y)]
  refine (rcut_any W _ _ (Nat.mod_lt _ (by omega))).mono ?_
  rintro e w' ⟨rfl, rfl⟩
  go_wp2
  go_ret
  exact ⟨ret_int (by rw [← HX.out, ← HY.out]; rfl), rfl⟩

set_option maxRecDepth 100000 in
set_option maxHeartbeats 400000 in
theorem rless_any (W : Int) (a b : Nat) (w : World) (ha : a < 18446744073709551616) (hb : b < 18446744073709551616) :
    Calls Tryd.prog 25 #[.int .i64 W, .int .u64 a, .int .u64 b] w fun e w' => e = .returned (.int .u64 (lessZ W a b : Nat)) ∧ w = w' := by
  have h1 := cutZ_lt W a ha
  have h2 := cutZ_lt W b hb
  go_enter Tryd.func25, Tryd.ntmps25
  go_wp2_with fail
  refine (rcut_any W a _ ha).mono ?_
  rintro e w' ⟨rfl, rfl⟩
  go_wp2_with fail
  refine (rcut_any W b _ hb).mono ?_
  rintro e w' ⟨rfl, rfl⟩
  generalize hx : cutZ W a = x at h1 ⊢
  generalize hy : cutZ W b = y at h2 ⊢
  have HX := Lib.hid hx
  have HY := Lib.hid hy
  clear hx hy
  go_wp2_with fail
  rw [show IntKind.u64.wrap ((x : Int) - (y : Int)) = (((x + 18446744073709551616 - y) % 18446744073709551616 : Nat) : Int) by rw [wrapUI]; omega]
  refine (rcut_any W _ _ (Nat.mod_lt _ (by omega))).mono ?_
  rintro e w' ⟨rfl, rfl⟩
  go_wp2
  go_ret
  exact ⟨ret_int (by rw [← HX.out, ← HY.out]; rfl), rfl⟩

/-- Is W a width, and fits v? -/
def fitsZ (W : Int) (v : Nat) : Bool := decide ((W = 32 ∨ W = 64) ∧ cutZ W v = v)
set_option maxRecDepth 100000 in
set_option maxHeartbeats 400000 in
theorem fits_any (W : Int) (v : Nat) (w : World) (hv : v < 18446744073709551616) :
    Calls Tryd.prog 21 #[.int .i64 W, .int .u64 v] w fun e w' => e = .returned (.bool (fitsZ W v)) ∧ w = w' := by
  have h1 := cutZ_lt W v hv
  rcases (show W = 32 ∨ W = 64 ∨ (W ≠ 32 ∧ W ≠ 64) by omega) with hW | hW | ⟨h2, h3⟩
  · have hc := cut_any W v w hv
    have hf : fitsZ W v = ((cutZ W v : Nat) == (v : Int)) := by unfold fitsZ; rw [Bool.eq_iff_iff]; simp [hW]; omega
    rw [hf]
    subst hW
    generalize cutZ 32 v = x at h1 hc
    have HC := Lib.hid hc
    clear hc hf
    go_enter Tryd.func21, Tryd.ntmps21
    go_wp2_with (go_at_call 20; refine HC.out.mono ?_; rintro e w' ⟨rfl, rfl⟩)
    go_ret
    exact ⟨rfl, rfl⟩
  · have hc := cut_any W v w hv
    have hf : fitsZ W v = ((cutZ W v : Nat) == (v : Int)) := by unfold fitsZ; rw [Bool.eq_iff_iff]; simp [hW]; omega
    rw [hf]
    subst hW
    generalize cutZ 64 v = x at h1 hc
    have HC := Lib.hid hc
    clear hc hf
    go_enter Tryd.func21, Tryd.ntmps21
    go_wp2_with (go_at_call 20; refine HC.out.mono ?_; rintro e w' ⟨rfl, rfl⟩)
    go_ret
    exact ⟨rfl, rfl⟩
  · have t1 : (W == 32) = false := beq_eq_false_iff_ne.2 h2
    have t2 : (W == 64) = false := beq_eq_false_iff_ne.2 h3
    have hf : fitsZ W v = false := by unfold fitsZ; simp [h2, h3]
    rw [hf]
    clear hf h2 h3
    go_enter Tryd.func21, Tryd.ntmps21
    go_wp2
    go_ret
    exact ⟨rfl, rfl⟩

set_option maxRecDepth 100000 in
set_option maxHeartbeats 400000 in
theorem rfits_any (W : Int) (v : Nat) (w : World) (hv : v < 18446744073709551616) :
    Calls Tryd.prog 23 #[.int .i64 W, .int .u64 v] w fun e w' => e = .returned (.bool (fitsZ W v)) ∧ w = w' := by
  have h1 := cutZ_lt W v hv
  rcases (show W = 32 ∨ W = 64 ∨ (W ≠ 32 ∧ W ≠ 64) by omega) with hW | hW | ⟨h2, h3⟩
  · have hc := rcut_any W v w hv
    have hf : fitsZ W v = ((cutZ W v : Nat) == (v : Int)) := by unfold fitsZ; rw [Bool.eq_iff_iff]; simp [hW]; omega
    rw [hf]
    subst hW
    generalize cutZ 32 v = x at h1 hc
    have HC := Lib.hid hc
    clear hc hf
    go_enter Tryd.func23, Tryd.ntmps23
    go_wp2_with (go_at_call 22; refine HC.out.mono ?_; rintro e w' ⟨rfl, rfl⟩)
    go_ret
    exact ⟨rfl, rfl⟩
  · have hc := rcut_any W v w hv
    have hf : fitsZ W v = ((cutZ W v : Nat) == (v : Int)) := by unfold fitsZ; rw [Bool.eq_iff_iff]; simp [hW]; omega
    rw [hf]
    subst hW
    generalize cutZ 64 v = x at h1 hc
    have HC := Lib.hid hc
    clear hc hf
    go_enter Tryd.func23, Tryd.ntmps23
    go_wp2_with (go_at_call 22; refine HC.out.mono ?_; rintro e w' ⟨rfl, rfl⟩)
    go_ret
    exact ⟨rfl, rfl⟩
  · have t1 : (W == 32) = false := beq_eq_false_iff_ne.2 h2
    have t2 : (W == 64) = false := beq_eq_false_iff_ne.2 h3
    have hf : fitsZ W v = false := by unfold fitsZ; simp [h2, h3]
    rw [hf]
    clear hf h2 h3
    go_enter Tryd.func23, Tryd.ntmps23
    go_wp2
    go_ret
    exact ⟨rfl, rfl⟩

theorem ret_tuple {k : IntKind} {a a' : Int} {b b' : Value} (h : a' = a) (h2 : b' = b) : Ending.returned (.tuple #[.int k a', b']) = .returned (.tuple #[.int k a, b]) := by rw [h, h2]
/-- What a byte is worth; 99: it is none. -/
def dig (c : Nat) : Nat := if 48 ≤ c ∧ c ≤ 57 then c - 48 else if 97 ≤ c ∧ c ≤ 102 then c - 87 else if 65 ≤ c ∧ c ≤ 70 then c - 55 else 99

set_option maxRecDepth 100000 in
set_option maxHeartbeats 400000 in
theorem digit_any (c base : Nat) (w : World) (hc : c < 256) (hb : base < 18446744073709551616) :
    Calls Tryd.prog 29 #[.int .u8 c, .int .u64 base] w fun e w' => e = .returned (.tuple #[.int .u64 (dig c : Nat), .bool (decide (dig c < base))]) ∧ w = w' := by
  rcases (show (48 ≤ c ∧ c ≤ 57) ∨ (97 ≤ c ∧ c ≤ 102) ∨ (65 ≤ c ∧ c ≤ 70) ∨ c < 48 ∨ (57 < c ∧ c < 65) ∨ (70 < c ∧ c < 97) ∨ 102 < c by omega) with h | h | h | h | h | h | h
  all_goals
    obtain ⟨x, hx, hd⟩ : ∃ x : Nat, (x : Int) = (if 48 ≤ c ∧ c ≤ 57 then (c : Int) - 48 else if 97 ≤ c ∧ c ≤ 102 then (c : Int) - 97 + 10 else if 65 ≤ c ∧ c ≤ 70 then (c : Int) - 65 + 10 else 99) ∧ dig c = x := ⟨dig c, by unfold dig; split <;> (try split) <;> (try split) <;> omega, rfl⟩
    rw [hd]
    have HX := Lib.hid hx
    clear hx hd
    go_enter Tryd.func29, Tryd.ntmps29
    go_wp2
    go_ret2
    refine ⟨?_, rfl⟩
    have hxx := HX.out
    first
      | (rw [if_pos (by omega)] at hxx)
      | (rw [if_neg (by omega), if_pos (by omega)] at hxx)
      | (rw [if_neg (by omega), if_neg (by omega), if_pos (by omega)] at hxx)
      | (rw [if_neg (by omega), if_neg (by omega), if_neg (by omega)] at hxx)
    exact ret_tuple (by rw [hxx]) (by rw [show (decide (x < base)) = decide ((x : Int) < (base : Int)) by rw [decide_eq_decide]; omega, hxx]; rfl)

set_option maxRecDepth 100000 in
set_option maxHeartbeats 400000 in
theorem rdigit_any (c : Nat) (w : World) (hc : c < 256) :
    Calls Tryd.prog 31 #[.int .u8 c] w fun e w' => e = .returned (.int .u64 (dig c : Nat)) ∧ w = w' := by
  rcases (show (48 ≤ c ∧ c ≤ 57) ∨ (97 ≤ c ∧ c ≤ 102) ∨ (65 ≤ c ∧ c ≤ 70) ∨ c < 48 ∨ (57 < c ∧ c < 65) ∨ (70 < c ∧ c < 97) ∨ 102 < c by omega) with h | h | h | h | h | h | h
  all_goals
    obtain ⟨x, hx, hd⟩ : ∃ x : Nat, (x : Int) = (if 48 ≤ c ∧ c ≤ 57 then (c : Int) - 48 else if 97 ≤ c ∧ c ≤ 102 then (c : Int) - 97 + 10 else if 65 ≤ c ∧ c ≤ 70 then (c : Int) - 65 + 10 else 99) ∧ dig c = x := ⟨dig c, by unfold dig; split <;> (try split) <;> (try split) <;> omega, rfl⟩
    rw [hd]
    have HX := Lib.hid hx
    clear hx hd
    go_enter Tryd.func31, Tryd.ntmps31
    go_wp2
    go_ret
    refine ⟨?_, rfl⟩
    have hxx := HX.out
    first
      | (rw [if_pos (by omega)] at hxx)
      | (rw [if_neg (by omega), if_pos (by omega)] at hxx)
      | (rw [if_neg (by omega), if_neg (by omega), if_pos (by omega)] at hxx)
      | (rw [if_neg (by omega), if_neg (by omega), if_neg (by omega)] at hxx)
    exact ret_int (by rw [hxx])

abbrev wordL : ByteArray := ⟨#[119, 111, 114, 100]⟩
set_option maxRecDepth 100000 in
set_option maxHeartbeats 400000 in
theorem fail_any (n k : Int) (w : World) (h1 : 1 ≤ k) (h2 : k ≤ 10) :
    Calls Tryd.prog 30 #[.int .i64 n, .iface 38 (.int .i64 k)] w fun e w' => ∃ eb, e = .returned (.iface 59 (.pointer (some ⟨eb, 0, none⟩))) ∧ Says w' wordL (.iface 59 (.pointer (some ⟨eb, 0, none⟩))) (some (n, k)) ∧ New w w' := by
  go_enter Tryd.func30, Tryd.ntmps30
  go_wp2
  go_ret
  exact ⟨_, rfl, ⟨⟨_, _, rfl, block_alloc_new _ _, rfl⟩, h1, h2⟩, (Fr.refl _ _).alloc _⟩

set_option maxRecDepth 100000 in
set_option maxHeartbeats 400000 in
theorem bucket_zero (a : Nat) (n : Int) (w : World) (h : n < 1) :
    Calls Tryd.prog 27 #[.int .u64 a, .int .i64 n] w fun e w' => e = .returned (.int .i64 0) ∧ w = w' := by
  go_enter Tryd.func27, Tryd.ntmps27
  go_wp2
  go_ret
  exact ⟨rfl, rfl⟩
set_option maxRecDepth 100000 in
set_option maxHeartbeats 400000 in
theorem rbucket_zero (a : Nat) (n : Int) (w : World) (h : n < 1) :
    Calls Tryd.prog 28 #[.int .u64 a, .int .i64 n] w fun e w' => e = .returned (.int .i64 0) ∧ w = w' := by
  go_enter Tryd.func28, Tryd.ntmps28
  go_wp2
  go_ret
  exact ⟨rfl, rfl⟩
def bucketN (a n : Nat) : Nat := a * 11400714819323198485 % 18446744073709551616 / 4294967296 % n
theorem bucket_spell (a n : Nat) (h : 1 ≤ n) (hn : n ≤ 9223372036854775807) : wrap64 ((IntKind.u64.wrap ((a : Int) * 11400714819323198485) / 4294967296).tmod (n : Int)) = ((bucketN a n : Nat) : Int) := by
  unfold bucketN
  have e1 : (a : Int) * 11400714819323198485 = ((a * 11400714819323198485 : Nat) : Int) := by omega
  rw [e1, wrapU]
  generalize a * 11400714819323198485 % 18446744073709551616 = x
  have e2 : (x : Int) / 4294967296 = ((x / 4294967296 : Nat) : Int) := by omega
  rw [e2]
  have e3 : (((x / 4294967296 : Nat) : Int)).tmod (n : Int) = ((x / 4294967296 % n : Nat) : Int) := rfl
  rw [e3]
  have := Nat.mod_lt (x / 4294967296) (show 0 < n by omega)
  exact IntWalk.wrap64_in ((x / 4294967296 % n : Nat) : Int) (by omega)
set_option maxRecDepth 100000 in
set_option maxHeartbeats 400000 in
theorem bucket_any (a n : Nat) (w : World) (h : 1 ≤ n) (hn : n ≤ 9223372036854775807) (ha : a < 18446744073709551616) :
    Calls Tryd.prog 27 #[.int .u64 a, .int .i64 n] w fun e w' => e = .returned (.int .i64 (bucketN a n : Nat)) ∧ w = w' := by
  go_enter Tryd.func27, Tryd.ntmps27
  go_wp2
  go_ret
  exact ⟨ret_int (bucket_spell a n h hn), rfl⟩

set_option maxRecDepth 100000 in
set_option maxHeartbeats 400000 in
theorem rbucket_any (a n : Nat) (w : World) (h : 1 ≤ n) (hn : n ≤ 9223372036854775807) (ha : a < 18446744073709551616) :
    Calls Tryd.prog 28 #[.int .u64 a, .int .i64 n] w fun e w' => e = .returned (.int .i64 (bucketN a n : Nat)) ∧ w = w' := by
  go_enter Tryd.func28, Tryd.ntmps28
  go_wp2
  go_ret
  exact ⟨ret_int (bucket_spell a n h hn), rfl⟩

end Go.Proofs.YtnnilcadmakamaaDoor
