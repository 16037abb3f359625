/- A frame's registers; what stands for an operand; what is reckoned of two words. -/
import Derived.Test.YtngpcalgjaglmaaDoorMemC
import Derived.Test.YtngpcalgjaglmaaDoorNums
import Derived.Test.YtngpcalgjaglmaaDoorReg
namespace Go.Proofs.YtngpcalgjaglmaaDoor
open Go.RowKit

/-- A frame lies in block fb from cell o on: its place, 32 registers, the slice of its places to come back to. -/
structure FrAt (w : World) (fb o : Nat) (pc : Int) (rs : List Nat) (v : Value) : Prop where
  lt : fb < w.heap.size
  pc : w.cell? ⟨fb, o, none⟩ = some (.int .i64 pc)
  reg : ∀ i x, rs[i]? = some x → w.cell? ⟨fb, o + 1 + i, none⟩ = some (.int .u64 (x : Nat))
  back : w.cell? ⟨fb, o + 33, none⟩ = some v
  free : ∀ i, w.frozen? ⟨fb, i, none⟩ = false
  len : rs.length = 32
  fits : ∀ x ∈ rs, x < 18446744073709551616
theorem FrAt.keep {w w' : World} {fb o : Nat} {pc : Int} {rs : List Nat} {v : Value} {S : Nat → Prop} (h : FrAt w fb o pc rs v) (f : Fr S w w') (hs : ¬ S fb) : FrAt w' fb o pc rs v :=
  ⟨Nat.lt_of_lt_of_le h.lt f.size, by rw [f.cell h.lt hs]; exact h.pc, fun i x hx => by rw [f.cell h.lt hs]; exact h.reg i x hx, by rw [f.cell h.lt hs]; exact h.back, fun i => by rw [f.frozen h.lt hs]; exact h.free i, h.len, h.fits⟩
theorem FrAt.new {w w' : World} {fb o : Nat} {pc : Int} {rs : List Nat} {v : Value} (h : FrAt w fb o pc rs v) (f : New w w') : FrAt w' fb o pc rs v := h.keep f id
/-- Stores into a frame. -/
theorem FrAt.setPc {w : World} {fb o : Nat} {pc : Int} {rs : List Nat} {v : Value} (h : FrAt w fb o pc rs v) (p : Int) : FrAt (w.setCell ⟨fb, o, none⟩ (.int .i64 p)) fb o p rs v :=
  ⟨by simpa using h.lt, cell_set_eq _ h.pc, fun i x hx => by rw [cell_set_ne _ (.inr (by omega))]; exact h.reg i x hx, by rw [cell_set_ne _ (.inr (by omega))]; exact h.back, fun i => by rw [World.frozen?_setCell]; exact h.free i, h.len, h.fits⟩
theorem FrAt.setReg {w : World} {fb o : Nat} {pc : Int} {rs : List Nat} {v : Value} (h : FrAt w fb o pc rs v) {j y : Nat} (hj : j < 32) (hy : y < 18446744073709551616) : FrAt (w.setCell ⟨fb, o + 1 + j, none⟩ (.int .u64 (y : Nat))) fb o pc (rs.set j y) v := by
  have hl := h.len
  refine ⟨by simpa using h.lt, ?_, fun i x hx => ?_, ?_, fun i => by rw [World.frozen?_setCell]; exact h.free i, by simpa using h.len, fun x hx => ?_⟩
  · rw [cell_set_ne _ (.inr (by omega))]; exact h.pc
  · by_cases e : i = j
    · subst e
      rw [List.getElem?_set_self (by omega)] at hx
      obtain rfl := Option.some.inj hx
      exact cell_set_eq _ (h.reg i (rs[i]'(by omega)) (by simp))
    · rw [List.getElem?_set_ne (Ne.symm e)] at hx
      rw [cell_set_ne _ (.inr (by omega))]; exact h.reg i x hx
  · rw [cell_set_ne _ (.inr (by omega))]; exact h.back
  · rcases List.mem_or_eq_of_mem_set hx with hx | rfl
    · exact h.fits x hx
    · exact hy
theorem FrAt.setBack {w : World} {fb o : Nat} {pc : Int} {rs : List Nat} {v : Value} (h : FrAt w fb o pc rs v) (u : Value) : FrAt (w.setCell ⟨fb, o + 33, none⟩ u) fb o pc rs u := by
  have hl := h.len
  refine ⟨by simpa using h.lt, ?_, fun i x hx => ?_, cell_set_eq _ h.back, fun i => by rw [World.frozen?_setCell]; exact h.free i, h.len, h.fits⟩
  · rw [cell_set_ne _ (.inr (by omega))]; exact h.pc
  · have := (List.getElem?_eq_some_iff.1 hx).1
    rw [cell_set_ne _ (.inr (by omega))]; exact h.reg i x hx

/-- What a register holds; what stands for C; the address of B and V. -/
def regN (rs : List Nat) (n : Int) : Nat := if 0 ≤ n ∧ n < 32 then rs.getD n.toNat 0 else 0
def valN (rs : List Nat) (C : Int) (V : Nat) : Nat := if C = -1 then V else regN rs C
def adrN (rs : List Nat) (B : Int) (V : Nat) : Nat := if B = -1 then V else (regN rs B + V) % 18446744073709551616
theorem getD_fit {rs : List Nat} (h : ∀ x ∈ rs, x < 18446744073709551616) (i : Nat) : rs.getD i 0 < 18446744073709551616 := by
  rw [List.getD_eq_getElem?_getD]
  cases hx : rs[i]? with
  | none => show 0 < _; omega
  | some x => exact h x (List.mem_of_getElem? hx)
theorem regN_fit {rs : List Nat} (h : ∀ x ∈ rs, x < 18446744073709551616) (n : Int) : regN rs n < 18446744073709551616 := by
  unfold regN
  split
  · exact getD_fit h _
  · omega
theorem valN_fit {rs : List Nat} (h : ∀ x ∈ rs, x < 18446744073709551616) (C : Int) {V : Nat} (hV : V < 18446744073709551616) : valN rs C V < 18446744073709551616 := by
  unfold valN
  split
  · exact hV
  · exact regN_fit h C
theorem adrN_fit {rs : List Nat} (B : Int) {V : Nat} (hV : V < 18446744073709551616) : adrN rs B V < 18446744073709551616 := by
  unfold adrN
  split
  · exact hV
  · exact Nat.mod_lt _ (by omega)
theorem FrAt.regD {w : World} {fb o : Nat} {pc : Int} {rs : List Nat} {v : Value} (h : FrAt w fb o pc rs v) {j : Nat} (hj : j < 32) : w.cell? ⟨fb, o + 1 + j, none⟩ = some (.int .u64 (rs.getD j 0 : Nat)) := by
  have hl := h.len
  exact h.reg j _ (by rw [List.getD_eq_getElem?_getD, List.getElem?_eq_getElem (by omega)]; rfl)
theorem sum64 (a b : Nat) : sumN 64 a b = (a + b) % 18446744073709551616 := by unfold sumN cutN; simp

abbrev insV (o A B C : Int) (V : Nat) (M W : Int) : Value := .agg #[.int .i64 o, .int .i64 A, .int .i64 B, .int .i64 C, .int .u64 V, .int .i64 M, .int .i64 W]

set_option maxRecDepth 100000 in
set_option maxHeartbeats 400000 in
theorem vthere_any (n : Int) (w : World) : Calls Tryd.prog 52 #[.int .i64 n] w fun e w' => e = .returned (.bool (decide (0 ≤ n ∧ n < 32))) ∧ w = w' := by
  rcases (show n < 0 ∨ (0 ≤ n ∧ n < 32) ∨ 32 ≤ n by omega) with h | ⟨h, h'⟩ | h
  all_goals
    go_enter Tryd.func52, Tryd.ntmps52
    go_wp2
    go_ret
    exact ⟨ret_bool (by rw [Bool.eq_iff_iff]; simp; omega), rfl⟩

set_option maxRecDepth 100000 in
set_option maxHeartbeats 400000 in
theorem read_any (fb o : Nat) (pc : Int) (rs : List Nat) (v : Value) (n : Int) (w : World) (h : FrAt w fb o pc rs v) :
    Calls Tryd.prog 31 #[.pointer (some ⟨fb, o, none⟩), .int .i64 n] w fun e w' => e = .returned (.int .u64 (regN rs n : Nat)) ∧ w = w' := by
  have ht := fun w => vthere_any n w
  unfold regN
  by_cases hn : 0 ≤ n ∧ n < 32
  · rw [decide_eq_true hn] at ht
    rw [if_pos hn]
    obtain ⟨k, rfl⟩ := Int.eq_ofNat_of_zero_le hn.1
    have c0 := h.regD (j := k) (by omega)
    rw [show ((k : Nat) : Int).toNat = k from rfl]
    generalize rs.getD k 0 = x at c0 ⊢
    have q1 : (k : Int) < 32 := hn.2
    have HT := Lib.hid ht
    clear ht hn h
    go_enter Tryd.func31, Tryd.ntmps31
    go_wp2_with (go_at_call 52; refine (HT.out _).mono ?_; rintro e w' ⟨rfl, rfl⟩)
    go_ret
    exact ⟨rfl, rfl⟩
  · rw [decide_eq_false hn] at ht
    rw [if_neg hn]
    have HT := Lib.hid ht
    clear ht hn h
    go_enter Tryd.func31, Tryd.ntmps31
    go_wp2_with (go_at_call 52; refine (HT.out _).mono ?_; rintro e w' ⟨rfl, rfl⟩)
    go_ret
    exact ⟨rfl, rfl⟩

set_option maxRecDepth 100000 in
set_option maxHeartbeats 400000 in
theorem value_any (fb o : Nat) (pc : Int) (rs : List Nat) (v : Value) (op A B C : Int) (V : Nat) (M W : Int) (w : World) (h : FrAt w fb o pc rs v) :
    Calls Tryd.prog 32 #[.pointer (some ⟨fb, o, none⟩), insV op A B C V M W] w fun e w' => e = .returned (.int .u64 (valN rs C V : Nat)) ∧ New w w' := by
  have HR := Lib.hid (fun w' (f : New w w') => read_any fb o pc rs v C w' (h.new f))
  unfold valN
  by_cases hC : C = -1
  · subst hC
    rw [if_pos rfl]
    clear h HR
    go_enter Tryd.func32, Tryd.ntmps32
    go_wp2
    go_ret
    exact ⟨rfl, (Fr.refl _ _).alloc _⟩
  · rw [if_neg hC]
    have t1 : (C == -1) = false := by rw [beq_eq_false_iff_ne]; exact hC
    clear h hC
    generalize regN rs C = x at HR ⊢
    go_enter Tryd.func32, Tryd.ntmps32
    go_wp2_with (go_at_call 31; refine (HR.out _ ((Fr.refl _ _).alloc _)).mono ?_; rintro e w' ⟨rfl, rfl⟩)
    go_ret
    exact ⟨rfl, (Fr.refl _ _).alloc _⟩

set_option maxRecDepth 100000 in
set_option maxHeartbeats 400000 in
theorem address_any (fb o : Nat) (pc : Int) (rs : List Nat) (v : Value) (op A B C : Int) (V : Nat) (M W : Int) (w : World) (h : FrAt w fb o pc rs v) (hV : V < 18446744073709551616) :
    Calls Tryd.prog 48 #[.pointer (some ⟨fb, o, none⟩), insV op A B C V M W] w fun e w' => e = .returned (.int .u64 (adrN rs B V : Nat)) ∧ New w w' := by
  have HR := Lib.hid (fun w' (f : New w w') => (read_any fb o pc rs v B w' (h.new f)).mono fun e w'' (h : _ ∧ w' = w'') => And.intro h.1 h.2.symm)
  unfold adrN
  by_cases hB : B = -1
  · subst hB
    rw [if_pos rfl]
    clear h HR
    go_enter Tryd.func48, Tryd.ntmps48
    go_wp2
    go_ret
    exact ⟨rfl, (Fr.refl _ _).alloc _⟩
  · rw [if_neg hB]
    have t1 : (B == -1) = false := by rw [beq_eq_false_iff_ne]; exact hB
    have hx := regN_fit h.fits B
    clear h hB
    generalize regN rs B = x at HR hx ⊢
    have HS := Lib.hid (fun w' => (sum_any 64 x V w' hx hV (.inr rfl)).mono fun e w'' (h : _ ∧ w' = w'') => And.intro h.1 h.2.symm)
    rw [sum64, show ((64 : Nat) : Int) = 64 from rfl] at HS
    go_enter Tryd.func48, Tryd.ntmps48
    go_wp2_with fail
    have hn0 : New w (w.alloc (.cells #[.int .i64 op, .int .i64 A, .int .i64 B, .int .i64 C, .int .u64 V, .int .i64 M, .int .i64 W] 52)) := (Fr.refl _ _).alloc _
    have x2 : (w.alloc (.cells #[.int .i64 op, .int .i64 A, .int .i64 B, .int .i64 C, .int .u64 V, .int .i64 M, .int .i64 W] 52)).cell? ⟨w.heap.size, 2, none⟩ = some (.int .i64 B) := cell_of_block (block_alloc_new _ _) 2
    have x4 : (w.alloc (.cells #[.int .i64 op, .int .i64 A, .int .i64 B, .int .i64 C, .int .u64 V, .int .i64 M, .int .i64 W] 52)).cell? ⟨w.heap.size, 4, none⟩ = some (.int .u64 V) := cell_of_block (block_alloc_new _ _) 4
    generalize w.alloc (.cells #[.int .i64 op, .int .i64 A, .int .i64 B, .int .i64 C, .int .u64 V, .int .i64 M, .int .i64 W] 52) = W1 at hn0 x2 x4 ⊢
    have HN0 := Lib.hid hn0
    clear hn0
    go_quiet ((first | (go_at_call 31; exact Calls.quiet_of_same (HR.out _ (HN0.out.drewN _))) | (go_at_call 49; exact Calls.quiet_of_same (HS.out _))))
    go_wp2
    go_ret
    exact ⟨rfl, HN0.out.drewN _⟩

theorem less64 (a b : Nat) (ha : a < 18446744073709551616) (hb : b < 18446744073709551616) : IntKind.u64.wrap ((a : Int) - (b : Int)) = (((a + (18446744073709551616 - b)) % 18446744073709551616 : Nat) : Int) := by
  have h : IntKind.u64.wrap ((a : Int) - (b : Int)) = ((a : Int) - (b : Int)) % 18446744073709551616 := by simp [IntKind.wrap, IntKind.signed, IntKind.bits]
  rw [h]
  omega
set_option maxRecDepth 100000 in
set_option maxHeartbeats 400000 in
theorem less_any (a b : Nat) (w : World) (ha : a < 18446744073709551616) (hb : b < 18446744073709551616) :
    Calls Tryd.prog 50 #[.int .i64 64, .int .u64 a, .int .u64 b] w fun e w' => e = .returned (.int .u64 ((a + (18446744073709551616 - b)) % 18446744073709551616 : Nat)) ∧ w = w' := by
  have HC := Lib.hid (fun v w' hv => (cut_any 64 v w' hv (.inr rfl)))
  rw [show ((64 : Nat) : Int) = 64 from rfl] at HC
  have hc : ∀ v, cutN 64 v = v := fun v => rfl
  go_enter Tryd.func50, Tryd.ntmps50
  go_wp2_with fail
  refine (HC.out a _ ha).mono ?_
  rintro e w' ⟨rfl, rfl⟩
  rw [hc]
  go_wp2_with fail
  refine (HC.out b _ hb).mono ?_
  rintro e w' ⟨rfl, rfl⟩
  rw [hc]
  go_wp2_with fail
  rw [less64 a b ha hb]
  refine (HC.out _ _ (Nat.mod_lt _ (by omega))).mono ?_
  rintro e w' ⟨rfl, rfl⟩
  rw [hc]
  go_wp2
  go_ret
  exact ⟨rfl, rfl⟩

set_option maxRecDepth 100000 in
set_option maxHeartbeats 400000 in
theorem flag_any (b : Bool) (w : World) : Calls Tryd.prog 51 #[.bool b] w fun e w' => e = .returned (.int .u64 (b.toNat : Nat)) ∧ w = w' := by
  cases b
  all_goals
    go_enter Tryd.func51, Tryd.ntmps51
    go_wp2
    go_ret
    exact ⟨rfl, rfl⟩

/-- What comes of B and C. -/
def reckN (o : Int) (V b c : Nat) : Nat :=
  if o = 1 then V else if o = 3 then (b + c) % 18446744073709551616 else if o = 4 then (b + (18446744073709551616 - c)) % 18446744073709551616 else if o = 5 then b &&& c else if o = 6 then b ||| c else if o = 7 then b ^^^ c
  else if o = 8 then b * 2 ^ (c % 64) % 18446744073709551616 else if o = 9 then b / 2 ^ (c % 64) else if o = 10 then (b == c).toNat else if o = 11 then (decide (b < c)).toNat else b
theorem reckN_fit (o : Int) {V b c : Nat} (hV : V < 18446744073709551616) (hb : b < 18446744073709551616) (hc : c < 18446744073709551616) : reckN o V b c < 18446744073709551616 := by
  unfold reckN
  have e : (18446744073709551616 : Nat) = 2 ^ 64 := by decide
  split
  · exact hV
  · split
    · exact Nat.mod_lt _ (by omega)
    · split
      · exact Nat.mod_lt _ (by omega)
      · split
        · rw [e] at hb hc ⊢; exact Nat.and_lt_two_pow _ hc
        · split
          · rw [e] at hb hc ⊢; exact Nat.or_lt_two_pow hb hc
          · split
            · rw [e] at hb hc ⊢; exact Nat.xor_lt_two_pow hb hc
            · split
              · exact Nat.mod_lt _ (by omega)
              · split
                · exact Nat.lt_of_le_of_lt (Nat.div_le_self _ _) hb
                · split
                  · have := Bool.toNat_lt (b == c); omega
                  · split
                    · have := Bool.toNat_lt (decide (b < c)); omega
                    · exact hb
theorem bits_nat (op : BinOp) (f : Nat → Nat → Nat) (a b : Nat) (ha : a < 18446744073709551616) (hb : b < 18446744073709551616) (hf : f a b < 18446744073709551616)
    (h : bits op .u64 a b = IntKind.u64.wrap ((f (BitVec.ofInt 64 a).toNat (BitVec.ofInt 64 b).toNat : Nat) : Int)) : bits op .u64 a b = ((f a b : Nat) : Int) := by
  have e : ∀ x : Nat, x < 18446744073709551616 → (BitVec.ofInt 64 (x : Int)).toNat = x := fun x hx => by
    rw [BitVec.ofInt_natCast, BitVec.toNat_ofNat]; exact Nat.mod_eq_of_lt hx
  rw [h, e a ha, e b hb, wrapU, Nat.mod_eq_of_lt hf]
theorem bits_and (a b : Nat) (ha : a < 18446744073709551616) (hb : b < 18446744073709551616) : bits .and .u64 a b = ((a &&& b : Nat) : Int) :=
  bits_nat .and (· &&& ·) a b ha hb (Nat.and_lt_two_pow (n := 64) _ hb) rfl
theorem bits_or (a b : Nat) (ha : a < 18446744073709551616) (hb : b < 18446744073709551616) : bits .or .u64 a b = ((a ||| b : Nat) : Int) :=
  bits_nat .or (· ||| ·) a b ha hb (Nat.or_lt_two_pow (n := 64) ha hb) rfl
theorem bits_xor (a b : Nat) (ha : a < 18446744073709551616) (hb : b < 18446744073709551616) : bits .xor .u64 a b = ((a ^^^ b : Nat) : Int) :=
  bits_nat .xor (· ^^^ ·) a b ha hb (Nat.xor_lt_two_pow (n := 64) ha hb) rfl
theorem bits_63 (c : Nat) (hc : c < 18446744073709551616) : bits .and .u64 c 63 = ((c % 64 : Nat) : Int) := by
  rw [show (63 : Int) = ((63 : Nat) : Int) from rfl, bits_and c 63 hc (by omega), show (63 : Nat) = 2 ^ 6 - 1 from rfl, Nat.and_two_pow_sub_one_eq_mod]

set_option maxRecDepth 100000 in
set_option maxHeartbeats 400000 in
theorem reckon_set (A B C : Int) (V : Nat) (M W : Int) (b c : Nat) (w : World) :
    Calls Tryd.prog 30 #[insV 1 A B C V M W, .int .u64 b, .int .u64 c] w fun e w' => e = .returned (.int .u64 (reckN 1 V b c : Nat)) ∧ New w w' := by
  go_enter Tryd.func30, Tryd.ntmps30
  go_wp2
  go_ret
  exact ⟨rfl, (Fr.refl _ _).alloc _⟩
set_option maxRecDepth 100000 in
set_option maxHeartbeats 400000 in
theorem reckon_mov (A B C : Int) (V : Nat) (M W : Int) (b c : Nat) (w : World) :
    Calls Tryd.prog 30 #[insV 2 A B C V M W, .int .u64 b, .int .u64 c] w fun e w' => e = .returned (.int .u64 (reckN 2 V b c : Nat)) ∧ New w w' := by
  go_enter Tryd.func30, Tryd.ntmps30
  go_wp2
  go_ret
  exact ⟨rfl, (Fr.refl _ _).alloc _⟩
set_option maxRecDepth 100000 in
set_option maxHeartbeats 400000 in
theorem reckon_add (A B C : Int) (V : Nat) (M W : Int) (b c : Nat) (w : World) (hb : b < 18446744073709551616) (hc : c < 18446744073709551616) :
    Calls Tryd.prog 30 #[insV 3 A B C V M W, .int .u64 b, .int .u64 c] w fun e w' => e = .returned (.int .u64 (reckN 3 V b c : Nat)) ∧ New w w' := by
  have HS := Lib.hid (fun w' => sum_any 64 b c w' hb hc (.inr rfl))
  rw [sum64, show ((64 : Nat) : Int) = 64 from rfl] at HS
  go_enter Tryd.func30, Tryd.ntmps30
  go_wp2_with (go_at_call 49; refine (HS.out _).mono ?_; rintro e w' ⟨rfl, rfl⟩)
  go_ret
  exact ⟨rfl, (Fr.refl _ _).alloc _⟩
set_option maxRecDepth 100000 in
set_option maxHeartbeats 400000 in
theorem reckon_sub (A B C : Int) (V : Nat) (M W : Int) (b c : Nat) (w : World) (hb : b < 18446744073709551616) (hc : c < 18446744073709551616) :
    Calls Tryd.prog 30 #[insV 4 A B C V M W, .int .u64 b, .int .u64 c] w fun e w' => e = .returned (.int .u64 (reckN 4 V b c : Nat)) ∧ New w w' := by
  have HS := Lib.hid (fun w' => less_any b c w' hb hc)
  go_enter Tryd.func30, Tryd.ntmps30
  go_wp2_with (go_at_call 50; refine (HS.out _).mono ?_; rintro e w' ⟨rfl, rfl⟩)
  go_ret
  exact ⟨rfl, (Fr.refl _ _).alloc _⟩
set_option maxRecDepth 100000 in
set_option maxHeartbeats 400000 in
theorem reckon_and (A B C : Int) (V : Nat) (M W : Int) (b c : Nat) (w : World) (hb : b < 18446744073709551616) (hc : c < 18446744073709551616) :
    Calls Tryd.prog 30 #[insV 5 A B C V M W, .int .u64 b, .int .u64 c] w fun e w' => e = .returned (.int .u64 (reckN 5 V b c : Nat)) ∧ New w w' := by
  have hbits := bits_and b c hb hc
  go_enter Tryd.func30, Tryd.ntmps30
  go_wp2
  go_ret
  first | exact ⟨rfl, (Fr.refl _ _).alloc _⟩ | exact ⟨ret_int hbits, (Fr.refl _ _).alloc _⟩
set_option maxRecDepth 100000 in
set_option maxHeartbeats 400000 in
theorem reckon_or (A B C : Int) (V : Nat) (M W : Int) (b c : Nat) (w : World) (hb : b < 18446744073709551616) (hc : c < 18446744073709551616) :
    Calls Tryd.prog 30 #[insV 6 A B C V M W, .int .u64 b, .int .u64 c] w fun e w' => e = .returned (.int .u64 (reckN 6 V b c : Nat)) ∧ New w w' := by
  have hbits := bits_or b c hb hc
  go_enter Tryd.func30, Tryd.ntmps30
  go_wp2
  go_ret
  first | exact ⟨rfl, (Fr.refl _ _).alloc _⟩ | exact ⟨ret_int hbits, (Fr.refl _ _).alloc _⟩
set_option maxRecDepth 100000 in
set_option maxHeartbeats 400000 in
theorem reckon_xor (A B C : Int) (V : Nat) (M W : Int) (b c : Nat) (w : World) (hb : b < 18446744073709551616) (hc : c < 18446744073709551616) :
    Calls Tryd.prog 30 #[insV 7 A B C V M W, .int .u64 b, .int .u64 c] w fun e w' => e = .returned (.int .u64 (reckN 7 V b c : Nat)) ∧ New w w' := by
  have hbits := bits_xor b c hb hc
  go_enter Tryd.func30, Tryd.ntmps30
  go_wp2
  go_ret
  first | exact ⟨rfl, (Fr.refl _ _).alloc _⟩ | exact ⟨ret_int hbits, (Fr.refl _ _).alloc _⟩
set_option maxRecDepth 100000 in
set_option maxHeartbeats 400000 in
theorem reckon_shl (A B C : Int) (V : Nat) (M W : Int) (b c : Nat) (w : World) (hb : b < 18446744073709551616) (hc : c < 18446744073709551616) :
    Calls Tryd.prog 30 #[insV 8 A B C V M W, .int .u64 b, .int .u64 c] w fun e w' => e = .returned (.int .u64 (reckN 8 V b c : Nat)) ∧ New w w' := by
  have hbits := bits_63 c hc
  have hk : c % 64 < 64 := Nat.mod_lt _ (by omega)
  have HE := Lib.hid (show reckN 8 V b c = b * 2 ^ (c % 64) % 18446744073709551616 from rfl)
  generalize c % 64 = k at hbits hk HE
  go_enter Tryd.func30, Tryd.ntmps30
  go_wp2
  go_ret
  exact ⟨ret_int (by rw [HE.out, ← wrapU]; simp), (Fr.refl _ _).alloc _⟩
set_option maxRecDepth 100000 in
set_option maxHeartbeats 400000 in
theorem reckon_shr (A B C : Int) (V : Nat) (M W : Int) (b c : Nat) (w : World) (hb : b < 18446744073709551616) (hc : c < 18446744073709551616) :
    Calls Tryd.prog 30 #[insV 9 A B C V M W, .int .u64 b, .int .u64 c] w fun e w' => e = .returned (.int .u64 (reckN 9 V b c : Nat)) ∧ New w w' := by
  have hbits := bits_63 c hc
  have hk : c % 64 < 64 := Nat.mod_lt _ (by omega)
  have HE := Lib.hid (show reckN 9 V b c = b / 2 ^ (c % 64) from rfl)
  generalize c % 64 = k at hbits hk HE
  go_enter Tryd.func30, Tryd.ntmps30
  go_wp2
  go_ret
  exact ⟨ret_int (by rw [HE.out]; simp), (Fr.refl _ _).alloc _⟩
set_option maxRecDepth 100000 in
set_option maxHeartbeats 400000 in
theorem reckon_eq (A B C : Int) (V : Nat) (M W : Int) (b c : Nat) (w : World) (hb : b < 18446744073709551616) (hc : c < 18446744073709551616) :
    Calls Tryd.prog 30 #[insV 10 A B C V M W, .int .u64 b, .int .u64 c] w fun e w' => e = .returned (.int .u64 (reckN 10 V b c : Nat)) ∧ New w w' := by
  have HE := Lib.hid (show reckN 10 V b c = (((b : Int) == (c : Int))).toNat by
    rw [show reckN 10 V b c = ((b == c)).toNat from rfl]
    congr 1
    rw [Bool.eq_iff_iff]; simp; try omega)
  have HF := Lib.hid (fun b w => flag_any b w)
  go_enter Tryd.func30, Tryd.ntmps30
  go_wp2_with (go_at_call 51; refine (HF.out _ _).mono ?_; rintro e w' ⟨rfl, rfl⟩)
  go_ret
  first | exact ⟨rfl, (Fr.refl _ _).alloc _⟩ | exact ⟨ret_int (by rw [HE.out]), (Fr.refl _ _).alloc _⟩
set_option maxRecDepth 100000 in
set_option maxHeartbeats 400000 in
theorem reckon_lt (A B C : Int) (V : Nat) (M W : Int) (b c : Nat) (w : World) (hb : b < 18446744073709551616) (hc : c < 18446744073709551616) :
    Calls Tryd.prog 30 #[insV 11 A B C V M W, .int .u64 b, .int .u64 c] w fun e w' => e = .returned (.int .u64 (reckN 11 V b c : Nat)) ∧ New w w' := by
  have HE := Lib.hid (show reckN 11 V b c = ((decide ((b : Int) < (c : Int)))).toNat by
    rw [show reckN 11 V b c = ((decide (b < c))).toNat from rfl]
    congr 1
    rw [Bool.eq_iff_iff]; simp; try omega)
  have HF := Lib.hid (fun b w => flag_any b w)
  go_enter Tryd.func30, Tryd.ntmps30
  go_wp2_with (go_at_call 51; refine (HF.out _ _).mono ?_; rintro e w' ⟨rfl, rfl⟩)
  go_ret
  first | exact ⟨rfl, (Fr.refl _ _).alloc _⟩ | exact ⟨ret_int (by rw [HE.out]), (Fr.refl _ _).alloc _⟩
theorem reckon_any (o A B C : Int) (V : Nat) (M W : Int) (b c : Nat) (w : World) (ho : 1 ≤ o ∧ o ≤ 11) (hb : b < 18446744073709551616) (hc : c < 18446744073709551616) :
    Calls Tryd.prog 30 #[insV o A B C V M W, .int .u64 b, .int .u64 c] w fun e w' => e = .returned (.int .u64 (reckN o V b c : Nat)) ∧ New w w' := by
  rcases (show o = 1 ∨ o = 2 ∨ o = 3 ∨ o = 4 ∨ o = 5 ∨ o = 6 ∨ o = 7 ∨ o = 8 ∨ o = 9 ∨ o = 10 ∨ o = 11 by omega) with rfl | rfl | rfl | rfl | rfl | rfl | rfl | rfl | rfl | rfl | rfl
  · exact reckon_set A B C V M W b c w
  · exact reckon_mov A B C V M W b c w
  · exact reckon_add A B C V M W b c w hb hc
  · exact reckon_sub A B C V M W b c w hb hc
  · exact reckon_and A B C V M W b c w hb hc
  · exact reckon_or A B C V M W b c w hb hc
  · exact reckon_xor A B C V M W b c w hb hc
  · exact reckon_shl A B C V M W b c w hb hc
  · exact reckon_shr A B C V M W b c w hb hc
  · exact reckon_eq A B C V M W b c w hb hc
  · exact reckon_lt A B C V M W b c w hb hc

end Go.Proofs.YtngpcalgjaglmaaDoor
