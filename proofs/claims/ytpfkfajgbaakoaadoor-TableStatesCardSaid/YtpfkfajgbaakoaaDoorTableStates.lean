/- A thread is what it was told to be, till it has ended; then it stays so: the statement's walk. -/
import Derived.Test.YtpfkfajgbaakoaaDoorTabI
import Derived.Test.YtpfkfajgbaakoaaDoorInts
namespace Go.Proofs.YtpfkfajgbaakoaaDoor
open Go.RowKit

def stR (s : Int) : TR := ⟨1, true, false, 64, s, 4, 0, 0, false, false⟩
def stE : TR := ⟨1, true, false, 64, 4, 4, 6, 0, false, true⟩
theorem st_ok {s a : Int} (hs : liveS s = true) (ha : liveS a = true) : onE [stR a] 64 (beE s) = none ∧ onL [stR a] 64 (beR s) = [stR s] := by
  have h4 : a ≠ 4 := by rintro rfl; simp [liveS] at ha
  simp [onE, onL, rowAt, stR, beE, beR, hs, h4]
theorem st_bad {s a : Int} (hs : liveS s = false) : onE [stR a] 64 (beE s) = some (0, 1) ∧ onL [stR a] 64 (beR s) = [stR a] := by
  simp [onE, onL, rowAt, stR, beE, beR, hs]
theorem st_end {a : Int} (ha : liveS a = true) : onE [stR a] 64 endE = none ∧ onL [stR a] 64 (endR 6) = [stE] := by
  have h4 : a ≠ 4 := by rintro rfl; simp [liveS] at ha
  simp [onE, onL, rowAt, stR, endE, endR, h4, stE]
theorem st_look (a : Int) : (lookT [stR a] 64).toArray = #[.int .u64 64, .int .i64 a, .int .u64 4, .int .u64 0, .int .u64 0, .bool false, .bool false] ∧ lookB [stR a] 64 = true := by
  simp [lookT, lookB, rowAt, stR, tC]

set_option maxRecDepth 100000 in
set_option maxHeartbeats 4000000 in
theorem states_walk (xs : List Int) (ao : Option Addr) (ca : Nat) (w : World) (hg : Laid w) (hc : IntsI w ao xs) (hml : xs.length ≤ 9223372036854775807) :
    Calls Tryd.prog 5 #[.slice ao xs.length ca] w fun e w' => e = .returned (.bool true) ∧ New w w' := by
  obtain ⟨K, hK⟩ : ∃ K, xs.length = K := ⟨_, rfl⟩
  rw [hK] at hml ⊢
  have HG := Lib.hid hg
  have HC := Lib.hid hc
  have HK := Lib.hid hK
  clear hg hc hK
  go_enter Tryd.func5, Tryd.ntmps5
  go_wp2_with fail
  refine (tb_new 1 w (by omega) (by omega)).mono ?_
  rintro e w1 ⟨b, rb, rfl, t1⟩
  have T1 := Lib.hid (show Tb w w1 b rb [noneR] from t1)
  clear t1
  go_wp2_with fail
  refine (T1.out.born (by simp [noneR]) (i := 64) (l' := [stR 1]) (home := 4) (by kernel_rfl) (by kernel_rfl) (by kernel_rfl)).mono ?_
  rintro e w2 ⟨rfl, t2⟩
  have T2 := Lib.hid t2
  clear t2 T1
  go_wp2_with fail
  go_loopw [7, 8] (fun s i wr => ∃ (k : Nat) (a : Int), k ≤ K ∧ k ≤ 50 ∧ i = .int .i64 k ∧ s = .int .i64 a ∧ liveS a = true ∧ Tb w wr b rb [stR a]) (fun s i _ => K - (intOf i).toNat)
  case atStart => exact ⟨0, 1, by omega, by omega, rfl, rfl, rfl, T2.out⟩
  case round =>
    clear T2
    obtain ⟨k, a, hk, hk5, rfl, rfl, ha, tk⟩ := hrel
    have TK := Lib.hid tk
    clear tk
    by_cases hend : k < K ∧ k < 50
    · obtain ⟨hlt, hlt5⟩ := hend
      obtain ⟨s, hs⟩ : ∃ s, xs[k]? = some s := ⟨xs[k]'(by rw [HK.out]; exact hlt), by simp⟩
      obtain ⟨g, off, rfl, hg1, c0⟩ := HC.out.keep TK.out.n k s hs
      have HC2 := Lib.hid (fun (w' : World) (f : New w w') => HC.out.keep f k s hs)
      clear hs
      have q1 : (0 : Int) ≤ (k : Int) := by omega
      have q2 : (k : Int) < (K : Int) := by omega
      go_wp2_with fail
      refine (pbe_any b rb [stR a] 64 s _ TK.out.p (by omega)).mono ?_
      rintro e w3 ⟨v3, rfl, h3⟩
      cases hl : liveS s with
      | true =>
        obtain rfl := Tb.nil h3 (st_ok hl ha).1
        have T3 := Lib.hid (TK.out.on (l' := [stR s]) h3 (st_ok hl ha).2)
        have c3 : w3.cell? ⟨g, off + k, none⟩ = some (.int .i64 s) := by
          obtain ⟨g', off', e', _, c'⟩ := HC2.out w3 T3.out.n
          cases e'; exact c'
        obtain ⟨x1, hx1⟩ : ∃ x, (s == 1) = x := ⟨_, rfl⟩
        obtain ⟨x2, hx2⟩ : ∃ x, (s == 2) = x := ⟨_, rfl⟩
        obtain ⟨x3, hx3⟩ : ∃ x, (s == 3) = x := ⟨_, rfl⟩
        have hor : x1 = true ∨ (x1 = false ∧ x2 = true) ∨ (x1 = false ∧ x2 = false ∧ x3 = true) := by
          have : liveS s = (x1 || x2 || x3) := by unfold liveS; rw [hx1, hx2, hx3]
          rw [hl] at this
          revert this; cases x1 <;> cases x2 <;> cases x3 <;> simp
        have hlk := st_look s
        have HL := Lib.hid hl
        have t5 : (s != s) = false := by simp
        clear h3 c0 hl
        rcases hor with rfl | ⟨rfl, rfl⟩ | ⟨rfl, rfl, rfl⟩
        all_goals
          go_wp2_with fail
          refine (plook_any b rb [stR s] 64 _ T3.out.p (by omega)).mono ?_
          rintro e w4 ⟨rfl, hn4⟩
          rw [hlk.1, hlk.2]
          have T4 := Lib.hid (T3.out.new hn4)
          clear hn4
          go_wp2
          go_roundw
          case rel => exact ⟨k + 1, s, by omega, by omega, by go_num, rfl, HL.out, T4.out.new ((Fr.refl _ _).alloc _)⟩
          case measure => simp [intOf]; omega
      | false =>
        have S3 := Lib.hid (Tb.err (k := 1) h3 (st_bad hl).1)
        have T3 := Lib.hid (TK.out.on (l' := [stR a]) h3 (st_bad hl).2)
        have c3 : w3.cell? ⟨g, off + k, none⟩ = some (.int .i64 s) := by
          obtain ⟨g', off', e', _, c'⟩ := HC2.out w3 T3.out.n
          cases e'; exact c'
        have hs1 : (s == 1) = false := by cases hx : (s == 1) <;> simp [liveS, hx] at hl ⊢
        have hs2 : (s == 2) = false := by cases hx : (s == 2) <;> simp [liveS, hx] at hl ⊢
        have hs3 : (s == 3) = false := by cases hx : (s == 3) <;> simp [liveS, hx] at hl ⊢
        have hlk := st_look a
        have HL := Lib.hid ha
        have t5 : (a != a) = false := by simp
        clear h3 c0 hl ha
        go_wp2_with fail
        refine (no_says tabL 0 1 _).mono ?_
        rintro e w4 ⟨f, rfl, hf, hn4⟩
        have T4 := Lib.hid (T3.out.new hn4)
        have HSM := Lib.hid (same_says v3 f tabL _ _ (laid_tb HG.out T4.out) (S3.out.new hn4) hf)
        clear hf hn4 S3 T3
        go_wp2_with fail
        refine HSM.out.mono ?_
        rintro e w5 ⟨rfl, hn5⟩
        have T5 := Lib.hid (T4.out.new hn5)
        clear hn5 T4
        go_wp2_with fail
        refine (plook_any b rb [stR a] 64 _ T5.out.p (by omega)).mono ?_
        rintro e w6 ⟨rfl, hn6⟩
        rw [hlk.1, hlk.2]
        have T6 := Lib.hid (T5.out.new hn6)
        clear hn6
        go_wp2
        go_roundw
        case rel => exact ⟨k + 1, a, by omega, by omega, by go_num, rfl, HL.out, T6.out.new ((Fr.refl _ _).alloc _)⟩
        case measure => simp [intOf]; omega
    · have HE := Lib.hid (st_end ha)
      by_cases hkl : k < K
      all_goals
        go_wp2_with fail
        refine (pend_any b rb [stR a] 64 6 _ TK.out.p (by omega)).mono ?_
        rintro e w3 ⟨v3, rfl, h3⟩
        obtain rfl := Tb.nil h3 HE.out.1
        have T3 := Lib.hid (TK.out.on (l' := [stE]) h3 HE.out.2)
        clear h3
        go_wp2_with fail
        refine (pbe_any b rb [stE] 64 1 _ T3.out.p (by omega)).mono ?_
        rintro e w4 ⟨v4, rfl, h4⟩
        have S4 := Lib.hid (Tb.err (k := 8) h4 (by kernel_rfl))
        have T4 := Lib.hid (T3.out.on (l' := [stE]) h4 (by kernel_rfl))
        clear h4 T3
        go_wp2_with fail
        refine (no_says tabL 0 8 _).mono ?_
        rintro e w5 ⟨f, rfl, hf, hn5⟩
        have T5 := Lib.hid (T4.out.new hn5)
        have HSM := Lib.hid (same_says v4 f tabL _ _ (laid_tb HG.out T5.out) (S4.out.new hn5) hf)
        clear hf hn5 S4 T4
        go_wp2_with fail
        refine HSM.out.mono ?_
        rintro e w6 ⟨rfl, hn6⟩
        have T6 := Lib.hid (T5.out.new hn6)
        clear hn6 T5 HSM
        go_wp2_with fail
        refine (pend_any b rb [stE] 64 6 _ T6.out.p (by omega)).mono ?_
        rintro e w7 ⟨v7, rfl, h7⟩
        have S7 := Lib.hid (Tb.err (k := 8) h7 (by kernel_rfl))
        have T7 := Lib.hid (T6.out.on (l' := [stE]) h7 (by kernel_rfl))
        clear h7 T6
        go_wp2_with fail
        refine (no_says tabL 0 8 _).mono ?_
        rintro e w8 ⟨f2, rfl, hf, hn8⟩
        have T8 := Lib.hid (T7.out.new hn8)
        have HSM := Lib.hid (same_says v7 f2 tabL _ _ (laid_tb HG.out T8.out) (S7.out.new hn8) hf)
        clear hf hn8 S7 T7
        go_wp2_with fail
        refine HSM.out.mono ?_
        rintro e w9 ⟨rfl, hn9⟩
        have T9 := Lib.hid (T8.out.new hn9)
        clear hn9 T8 HSM
        go_wp2_with fail
        refine (plook_any b rb [stE] 64 _ T9.out.p (by omega)).mono ?_
        rintro e w10 ⟨rfl, hn10⟩
        rw [show (lookT [stE] 64).toArray = #[.int .u64 64, .int .i64 4, .int .u64 4, .int .u64 6, .int .u64 0, .bool false, .bool true] by kernel_rfl, show lookB [stE] 64 = true by kernel_rfl]
        have T10 := Lib.hid (T9.out.new hn10)
        clear hn10 T9
        go_wp2_with fail
        refine (awake_any _ (laid_tb HG.out (T10.out.new ((Fr.refl _ _).alloc _)))).mono ?_
        rintro e wz ⟨rfl, hn⟩
        go_wp2
        go_ret
        exact ⟨rfl, T10.out.n.trans (((Fr.refl _ _).alloc _).trans hn)⟩

end Go.Proofs.YtpfkfajgbaakoaaDoor
