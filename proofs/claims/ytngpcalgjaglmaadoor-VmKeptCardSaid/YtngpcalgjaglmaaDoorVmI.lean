/- The document's operands; all registers at once. -/
import Derived.Test.YtngpcalgjaglmaaDoorVmC
import Derived.ChangeKeysEq
import Derived.Deep.MidRow
namespace Go.Proofs.YtngpcalgjaglmaaDoor
open Go.RowKit

abbrev regV (rs : List Nat) : List Value := rs.map fun x : Nat => Value.int .u64 x
theorem u64Some : ∃ i, Tryd.prog.info? 47 = some i := by
  have h1 : (Tryd.prog.info? 47).map (·.size) = some 1 := by kernel_rfl
  cases h : Tryd.prog.info? 47 with
  | some i => exact ⟨i, rfl⟩
  | none => rw [h] at h1; cases h1
theorem items_self (rs : List Nat) (w : World) : ∀ is : List Nat, (∀ i ∈ is, i < rs.length) → (Op.eqItems 9999 47 (Tryd.prog.cellsOf 47) (regV rs).toArray (regV rs).toArray is).run Tryd.prog w = .ok true w
  | [], _ => rfl
  | i :: is, h => by
    have hi := h i (by simp)
    have hc : Tryd.prog.cellsOf 47 = 1 := by kernel_rfl
    have ha : (regV rs).toArray[i * Tryd.prog.cellsOf 47]? = some (Value.int .u64 (rs[i] : Nat)) := by rw [hc]; simp [hi]
    have hp := run_part_plain (P := Tryd.prog) w (e := 47) (by kernel_rfl) ha
    have ih := items_self rs w is (fun j hj => h j (by simp [hj]))
    simp only [Op.eqItems, Sem.run_bind, hp, Result.andThen_ok]
    rw [show (9999 : Nat) = 9998 + 1 from rfl, run_equalIn_int w 9998 47 .u64 .u64 _ _ Tryd.underlying47]
    simp only [Result.andThen_ok, beq_self_eq_true, Bool.not_true, Bool.false_eq_true, if_false]
    exact ih
theorem arr_self (rs : List Nat) (hl : rs.length = 32) (w : World) : (binOp .eql 48 (.agg (regV rs).toArray) (.agg (regV rs).toArray)).run Tryd.prog w = .ok (.bool true) w := by
  obtain ⟨i, hi⟩ := u64Some
  rw [run_eql_struct, show (10000 : Nat) = 9999 + 1 from rfl, run_equalIn_array w 9999 _ _ Tryd.underlying48 hi, items_self rs w _ (fun i hi => by have := List.mem_range.1 hi; omega)]
  rfl
theorem arr_neq (rs : List Nat) (hl : rs.length = 32) (w : World) : (binOp .neq 48 (.agg (regV rs).toArray) (.agg (regV rs).toArray)).run Tryd.prog w = .ok (.bool false) w := by
  obtain ⟨i, hi⟩ := u64Some
  rw [run_neq_struct, show (10000 : Nat) = 9999 + 1 from rfl, run_equalIn_array w 9999 _ _ Tryd.underlying48 hi, items_self rs w _ (fun i hi => by have := List.mem_range.1 hi; omega)]
  rfl
theorem regSize : (Tryd.prog.info? 48).map (·.size) = some 32 := by kernel_rfl
/-- All registers at once. -/
theorem FrAt.range {w : World} {fb o : Nat} {pc : Int} {rs : List Nat} {v : Value} (h : FrAt w fb o pc rs v) : w.rangeAt fb (o + 1) (regV rs) := fun j u hj => by
  rw [List.getElem?_map] at hj
  cases hx : rs[j]? with
  | none => rw [hx] at hj; cases hj
  | some x => rw [hx] at hj; obtain rfl := Option.some.inj hj; exact h.reg j x hx

set_option maxRecDepth 100000 in
set_option maxHeartbeats 400000 in
theorem rreg_any (n : Int) (w : World) : Calls Tryd.prog 56 #[.int .i64 n] w fun e w' => e = .returned (.bool (decide (0 ≤ n ∧ n < 32))) ∧ w = w' := by
  rcases (show n < 0 ∨ (0 ≤ n ∧ n < 32) ∨ 32 ≤ n by omega) with h | ⟨h, h'⟩ | h
  all_goals
    go_enter Tryd.func56, Tryd.ntmps56
    go_wp2
    go_ret
    exact ⟨ret_bool (by rw [Bool.eq_iff_iff]; simp; omega), rfl⟩

set_option maxRecDepth 100000 in
set_option maxHeartbeats 1000000 in
theorem rvalue_any (fb o : Nat) (pc : Int) (rs : List Nat) (v : Value) (op A B C : Int) (V : Nat) (M W : Int) (w : World) (h : FrAt w fb o pc rs v) :
    Calls Tryd.prog 35 #[.pointer (some ⟨fb, o, none⟩), insV op A B C V M W] w fun e w' => e = .returned (.int .u64 (valN rs C V : Nat)) ∧ New w w' := by
  unfold valN
  by_cases hC : C = -1
  · subst hC
    rw [if_pos rfl]
    clear h
    go_enter Tryd.func35, Tryd.ntmps35
    go_wp2
    go_ret
    exact ⟨rfl, (Fr.refl _ _).alloc _⟩
  · rw [if_neg hC]
    have t1 : (C == -1) = false := by rw [beq_eq_false_iff_ne]; exact hC
    have hrg := fun w => rreg_any C w
    by_cases hr : 0 ≤ C ∧ C < 32
    · rw [decide_eq_true hr] at hrg
      have HRG := Lib.hid hrg
      have hv : regN rs C = rs.getD C.toNat 0 := by unfold regN; rw [if_pos hr]
      rw [hv]
      obtain ⟨k, rfl⟩ := Int.eq_ofNat_of_zero_le hr.1
      have c0 := h.regD (j := k) (by omega)
      have hl := h.lt
      rw [show ((k : Nat) : Int).toNat = k from rfl]
      generalize rs.getD k 0 = x at c0 ⊢
      have q1 : (0 : Int) ≤ (k : Int) := by omega
      have q2 : (k : Int) < 32 := hr.2
      clear h hC hrg hr hv
      go_enter Tryd.func35, Tryd.ntmps35
      go_wp2_with (go_at_call 56; refine (HRG.out _).mono ?_; rintro e w' ⟨rfl, rfl⟩)
      go_quiet (fail)
      go_wp2
      go_ret
      exact ⟨rfl, ((Fr.refl _ _).alloc _).drewN _⟩
    · rw [decide_eq_false hr] at hrg
      have HRG := Lib.hid hrg
      have hv : regN rs C = 0 := by unfold regN; rw [if_neg hr]
      rw [hv]
      clear h hC hrg hr hv
      go_enter Tryd.func35, Tryd.ntmps35
      go_wp2_with (go_at_call 56; refine (HRG.out _).mono ?_; rintro e w' ⟨rfl, rfl⟩)
      go_ret
      exact ⟨rfl, (Fr.refl _ _).alloc _⟩

set_option maxRecDepth 100000 in
set_option maxHeartbeats 1000000 in
theorem raddress_any (fb o : Nat) (pc : Int) (rs : List Nat) (v : Value) (op A B C : Int) (V : Nat) (M W : Int) (w : World) (h : FrAt w fb o pc rs v) (hV : V < 18446744073709551616) :
    Calls Tryd.prog 37 #[.pointer (some ⟨fb, o, none⟩), insV op A B C V M W] w fun e w' => e = .returned (.int .u64 (adrN rs B V : Nat)) ∧ New w w' := by
  unfold adrN
  by_cases hB : B = -1
  · subst hB
    rw [if_pos rfl]
    clear h
    go_enter Tryd.func37, Tryd.ntmps37
    go_wp2
    go_ret
    exact ⟨rfl, (Fr.refl _ _).alloc _⟩
  · rw [if_neg hB]
    have t1 : (B == -1) = false := by rw [beq_eq_false_iff_ne]; exact hB
    have hrg := fun w => rreg_any B w
    by_cases hr : 0 ≤ B ∧ B < 32
    · rw [decide_eq_true hr] at hrg
      have HRG := Lib.hid hrg
      have hv : regN rs B = rs.getD B.toNat 0 := by unfold regN; rw [if_pos hr]
      rw [hv]
      obtain ⟨k, rfl⟩ := Int.eq_ofNat_of_zero_le hr.1
      have c0 := h.regD (j := k) (by omega)
      have hl := h.lt
      rw [show ((k : Nat) : Int).toNat = k from rfl]
      generalize rs.getD k 0 = x at c0 ⊢
      have q1 : (0 : Int) ≤ (k : Int) := by omega
      have q2 : (k : Int) < 32 := hr.2
      clear h hB hrg hr hv
      go_enter Tryd.func37, Tryd.ntmps37
      go_wp2_with (go_at_call 56; refine (HRG.out _).mono ?_; rintro e w' ⟨rfl, rfl⟩)
      go_quiet (fail)
      go_wp2
      go_ret
      exact ⟨ret_int (by rw [← wrapU]; simp), ((Fr.refl _ _).alloc _).drewN _⟩
    · rw [decide_eq_false hr] at hrg
      have HRG := Lib.hid hrg
      have hv : regN rs B = 0 := by unfold regN; rw [if_neg hr]
      rw [hv]
      clear h hB hrg hr hv
      go_enter Tryd.func37, Tryd.ntmps37
      go_wp2_with (go_at_call 56; refine (HRG.out _).mono ?_; rintro e w' ⟨rfl, rfl⟩)
      go_ret
      exact ⟨ret_int (by rw [Nat.zero_add, Nat.mod_eq_of_lt hV]), (Fr.refl _ _).alloc _⟩

end Go.Proofs.YtngpcalgjaglmaaDoor
