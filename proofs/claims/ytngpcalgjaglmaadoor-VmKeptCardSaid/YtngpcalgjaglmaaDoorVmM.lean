/- The document's reckoning of two words; which access an instruction is. -/
import Derived.Test.YtngpcalgjaglmaaDoorVmI
import Derived.Test.YtngpcalgjaglmaaDoorVmL
namespace Go.Proofs.YtngpcalgjaglmaaDoor
open Go.RowKit

set_option maxRecDepth 100000 in
set_option maxHeartbeats 400000 in
theorem rone_any (b : Bool) (w : World) : Calls Tryd.prog 55 #[.bool b] w fun e w' => e = .returned (.int .u64 (b.toNat : Nat)) ∧ w = w' := by
  cases b
  all_goals
    go_enter Tryd.func55, Tryd.ntmps55
    go_wp2
    go_ret
    exact ⟨rfl, rfl⟩
set_option maxRecDepth 100000 in
set_option maxHeartbeats 400000 in
theorem rreckon_add (V b c : Nat) (w : World) (hb : b < 18446744073709551616) (hc : c < 18446744073709551616) :
    Calls Tryd.prog 34 #[.int .i64 3, .int .u64 b, .int .u64 c] w fun e w' => e = .returned (.int .u64 (reckN 3 V b c : Nat)) ∧ w = w' := by
  have hless := less64 b c hb hc
  have hadd : IntKind.u64.wrap ((b : Int) + (c : Int)) = (((b + c) % 18446744073709551616 : Nat) : Int) := by rw [← wrapU]; simp
  go_enter Tryd.func34, Tryd.ntmps34
  go_wp2
  go_ret
  first | exact ⟨ret_int hless, rfl⟩ | exact ⟨ret_int hadd, rfl⟩ | exact ⟨ret_int (by show _ = (((b + (18446744073709551616 - c)) % 18446744073709551616 : Nat) : Int); rw [Int.natCast_emod, Int.natCast_add]; rfl), rfl⟩
set_option maxRecDepth 100000 in
set_option maxHeartbeats 400000 in
theorem rreckon_sub (V b c : Nat) (w : World) (hb : b < 18446744073709551616) (hc : c < 18446744073709551616) :
    Calls Tryd.prog 34 #[.int .i64 4, .int .u64 b, .int .u64 c] w fun e w' => e = .returned (.int .u64 (reckN 4 V b c : Nat)) ∧ w = w' := by
  have hless := less64 b c hb hc
  have hadd : IntKind.u64.wrap ((b : Int) + (c : Int)) = (((b + c) % 18446744073709551616 : Nat) : Int) := by rw [← wrapU]; simp
  go_enter Tryd.func34, Tryd.ntmps34
  go_wp2
  go_ret
  first | exact ⟨ret_int hless, rfl⟩ | exact ⟨ret_int hadd, rfl⟩ | exact ⟨ret_int (by show _ = (((b + (18446744073709551616 - c)) % 18446744073709551616 : Nat) : Int); rw [Int.natCast_emod, Int.natCast_add]; rfl), rfl⟩
set_option maxRecDepth 100000 in
set_option maxHeartbeats 400000 in
theorem rreckon_and (V b c : Nat) (w : World) (hb : b < 18446744073709551616) (hc : c < 18446744073709551616) :
    Calls Tryd.prog 34 #[.int .i64 5, .int .u64 b, .int .u64 c] w fun e w' => e = .returned (.int .u64 (reckN 5 V b c : Nat)) ∧ w = w' := by
  have hbits := bits_and b c hb hc
  go_enter Tryd.func34, Tryd.ntmps34
  go_wp2
  go_ret
  first | exact ⟨rfl, rfl⟩ | exact ⟨ret_int hbits, rfl⟩
set_option maxRecDepth 100000 in
set_option maxHeartbeats 400000 in
theorem rreckon_or (V b c : Nat) (w : World) (hb : b < 18446744073709551616) (hc : c < 18446744073709551616) :
    Calls Tryd.prog 34 #[.int .i64 6, .int .u64 b, .int .u64 c] w fun e w' => e = .returned (.int .u64 (reckN 6 V b c : Nat)) ∧ w = w' := by
  have hbits := bits_or b c hb hc
  go_enter Tryd.func34, Tryd.ntmps34
  go_wp2
  go_ret
  first | exact ⟨rfl, rfl⟩ | exact ⟨ret_int hbits, rfl⟩
set_option maxRecDepth 100000 in
set_option maxHeartbeats 400000 in
theorem rreckon_xor (V b c : Nat) (w : World) (hb : b < 18446744073709551616) (hc : c < 18446744073709551616) :
    Calls Tryd.prog 34 #[.int .i64 7, .int .u64 b, .int .u64 c] w fun e w' => e = .returned (.int .u64 (reckN 7 V b c : Nat)) ∧ w = w' := by
  have hbits := bits_xor b c hb hc
  go_enter Tryd.func34, Tryd.ntmps34
  go_wp2
  go_ret
  first | exact ⟨rfl, rfl⟩ | exact ⟨ret_int hbits, rfl⟩
set_option maxRecDepth 100000 in
set_option maxHeartbeats 400000 in
theorem rreckon_shl (V b c : Nat) (w : World) (hb : b < 18446744073709551616) (hc : c < 18446744073709551616) :
    Calls Tryd.prog 34 #[.int .i64 8, .int .u64 b, .int .u64 c] w fun e w' => e = .returned (.int .u64 (reckN 8 V b c : Nat)) ∧ w = w' := by
  have hbits := bits_63 c hc
  have hk : c % 64 < 64 := Nat.mod_lt _ (by omega)
  have HE := Lib.hid (show reckN 8 V b c = b * 2 ^ (c % 64) % 18446744073709551616 from rfl)
  generalize c % 64 = k at hbits hk HE
  go_enter Tryd.func34, Tryd.ntmps34
  go_wp2
  go_ret
  exact ⟨ret_int (by rw [HE.out, ← wrapU]; simp), rfl⟩
set_option maxRecDepth 100000 in
set_option maxHeartbeats 400000 in
theorem rreckon_shr (V b c : Nat) (w : World) (hb : b < 18446744073709551616) (hc : c < 18446744073709551616) :
    Calls Tryd.prog 34 #[.int .i64 9, .int .u64 b, .int .u64 c] w fun e w' => e = .returned (.int .u64 (reckN 9 V b c : Nat)) ∧ w = w' := by
  have hbits := bits_63 c hc
  have hk : c % 64 < 64 := Nat.mod_lt _ (by omega)
  have HE := Lib.hid (show reckN 9 V b c = b / 2 ^ (c % 64) from rfl)
  generalize c % 64 = k at hbits hk HE
  go_enter Tryd.func34, Tryd.ntmps34
  go_wp2
  go_ret
  exact ⟨ret_int (by rw [HE.out]; simp), rfl⟩
set_option maxRecDepth 100000 in
set_option maxHeartbeats 400000 in
theorem rreckon_eq (V b c : Nat) (w : World) (hb : b < 18446744073709551616) (hc : c < 18446744073709551616) :
    Calls Tryd.prog 34 #[.int .i64 10, .int .u64 b, .int .u64 c] w fun e w' => e = .returned (.int .u64 (reckN 10 V b c : Nat)) ∧ w = w' := by
  have HE := Lib.hid (show reckN 10 V b c = (((b : Int) == (c : Int))).toNat by
    rw [show reckN 10 V b c = ((b == c)).toNat from rfl]
    congr 1
    rw [Bool.eq_iff_iff]; simp; try omega)
  have HF := Lib.hid (fun b w => rone_any b w)
  go_enter Tryd.func34, Tryd.ntmps34
  go_wp2_with (go_at_call 55; refine (HF.out _ _).mono ?_; rintro e w' ⟨rfl, rfl⟩)
  go_ret
  first | exact ⟨rfl, rfl⟩ | exact ⟨ret_int (by rw [HE.out]), rfl⟩
set_option maxRecDepth 100000 in
set_option maxHeartbeats 400000 in
theorem rreckon_lt (V b c : Nat) (w : World) (hb : b < 18446744073709551616) (hc : c < 18446744073709551616) :
    Calls Tryd.prog 34 #[.int .i64 11, .int .u64 b, .int .u64 c] w fun e w' => e = .returned (.int .u64 (reckN 11 V b c : Nat)) ∧ w = w' := by
  have HE := Lib.hid (show reckN 11 V b c = ((decide ((b : Int) < (c : Int)))).toNat by
    rw [show reckN 11 V b c = ((decide (b < c))).toNat from rfl]
    congr 1
    rw [Bool.eq_iff_iff]; simp; try omega)
  have HF := Lib.hid (fun b w => rone_any b w)
  go_enter Tryd.func34, Tryd.ntmps34
  go_wp2_with (go_at_call 55; refine (HF.out _ _).mono ?_; rintro e w' ⟨rfl, rfl⟩)
  go_ret
  first | exact ⟨rfl, rfl⟩ | exact ⟨ret_int (by rw [HE.out]), rfl⟩
theorem rreckon_any (o : Int) (V b c : Nat) (w : World) (ho : 3 ≤ o ∧ o ≤ 11) (hb : b < 18446744073709551616) (hc : c < 18446744073709551616) :
    Calls Tryd.prog 34 #[.int .i64 o, .int .u64 b, .int .u64 c] w fun e w' => e = .returned (.int .u64 (reckN o V b c : Nat)) ∧ w = w' := by
  rcases (show o = 3 ∨ o = 4 ∨ o = 5 ∨ o = 6 ∨ o = 7 ∨ o = 8 ∨ o = 9 ∨ o = 10 ∨ o = 11 by omega) with rfl | rfl | rfl | rfl | rfl | rfl | rfl | rfl | rfl
  · exact rreckon_add V b c w hb hc
  · exact rreckon_sub V b c w hb hc
  · exact rreckon_and V b c w hb hc
  · exact rreckon_or V b c w hb hc
  · exact rreckon_xor V b c w hb hc
  · exact rreckon_shl V b c w hb hc
  · exact rreckon_shr V b c w hb hc
  · exact rreckon_eq V b c w hb hc
  · exact rreckon_lt V b c w hb hc

set_option maxRecDepth 100000 in
set_option maxHeartbeats 400000 in
theorem raccK_any (o : Int) (w : World) (ho : 17 ≤ o ∧ o ≤ 21) : Calls Tryd.prog 36 #[.int .i64 o] w fun e w' => e = .returned (.int .i64 (accK o : Nat)) ∧ w = w' := by
  rcases (show o = 17 ∨ o = 18 ∨ o = 19 ∨ o = 20 ∨ o = 21 by omega) with rfl | rfl | rfl | rfl | rfl
  all_goals
    go_enter Tryd.func36, Tryd.ntmps36
    go_wp2
    go_ret
    exact ⟨rfl, rfl⟩

end Go.Proofs.YtngpcalgjaglmaaDoor
