/- One that is born, ends, leaves and is reaped is forgotten just behind the last of these: the statement's walk (printed by gen_tab.py). -/
import Derived.Test.YtpfkfajgbaakoaaDoorTabI
namespace Go.Proofs.YtpfkfajgbaakoaaDoor
open Go.RowKit

set_option maxRecDepth 100000 in
set_option maxHeartbeats 4000000 in
theorem life_loose (value home : Nat) (rf : Bool) (w : World) (hg : Laid w) :
    Calls Tryd.prog 6 #[.int .u64 value, .int .u64 home, .bool rf, .bool true] w fun e w' => e = .returned (.bool true) ∧ New w w' := by
  have HG := Lib.hid hg
  clear hg
  have tv : ((value : Int) != (value : Int)) = false := by simp
  have th : ((home : Int) != (home : Int)) = false := by simp
  go_enter Tryd.func6, Tryd.ntmps6
  go_wp2_with fail
  refine (tb_new 3 w (by omega) (by omega)).mono ?_
  rintro e w1 ⟨b, rb, rfl, t1⟩
  have T1 := Lib.hid (show Tb w w1 b rb [noneR, noneR, noneR] from t1)
  clear t1
  go_wp2_with fail
  refine (T1.out.born (by simp [noneR]) (i := 64) (l' := [⟨1, true, false, 64, 1, home, 0, 0, false, false⟩, noneR, noneR]) (home := home) (by kernel_rfl) (by kernel_rfl) (by kernel_rfl)).mono ?_
  rintro e w2 ⟨rfl, t2⟩
  have T2 := Lib.hid t2
  clear t2 T1
  go_wp2_with fail
  refine (pstatus_any b rb [⟨1, true, false, 64, 1, home, 0, 0, false, false⟩, noneR, noneR] 64 _ (T2.out.new (by first | exact Fr.refl _ _ | exact (Fr.refl _ _).alloc _)).p (by omega)).mono ?_
  rintro e wz ⟨rfl, rfl⟩
  rw [show statI [⟨1, true, false, 64, 1, home, 0, 0, false, false⟩, noneR, noneR] 64 = 1 by kernel_rfl]
  go_wp2_with fail
  refine (ploose_any b rb [⟨1, true, false, 64, 1, home, 0, 0, false, false⟩, noneR, noneR] 64 _ (T2.out.new (by first | exact Fr.refl _ _ | exact (Fr.refl _ _).alloc _)).p (by omega)).mono ?_
  rintro e w3 ⟨v3, rfl, h3⟩
  obtain rfl := Tb.nil h3 (by kernel_rfl)
  have T3 := Lib.hid ((T2.out.new (by first | exact Fr.refl _ _ | exact (Fr.refl _ _).alloc _)).on (l' := [⟨1, true, false, 64, 1, home, 0, 0, true, false⟩, noneR, noneR]) h3 (by kernel_rfl))
  clear h3 T2
  go_wp2_with fail
  refine (pstatus_any b rb [⟨1, true, false, 64, 1, home, 0, 0, true, false⟩, noneR, noneR] 64 _ (T3.out.new (by first | exact Fr.refl _ _ | exact (Fr.refl _ _).alloc _)).p (by omega)).mono ?_
  rintro e wz ⟨rfl, rfl⟩
  rw [show statI [⟨1, true, false, 64, 1, home, 0, 0, true, false⟩, noneR, noneR] 64 = 2 by kernel_rfl]
  go_wp2_with fail
  refine (pend_any b rb [⟨1, true, false, 64, 1, home, 0, 0, true, false⟩, noneR, noneR] 64 value _ (T3.out.new (by first | exact Fr.refl _ _ | exact (Fr.refl _ _).alloc _)).p (by omega)).mono ?_
  rintro e w4 ⟨v4, rfl, h4⟩
  obtain rfl := Tb.nil h4 (by kernel_rfl)
  have T4 := Lib.hid ((T3.out.new (by first | exact Fr.refl _ _ | exact (Fr.refl _ _).alloc _)).on (l' := [⟨1, true, false, 64, 4, home, value, 0, true, true⟩, noneR, noneR]) h4 (by kernel_rfl))
  clear h4 T3
  go_wp2_with fail
  refine (pstatus_any b rb [⟨1, true, false, 64, 4, home, value, 0, true, true⟩, noneR, noneR] 64 _ (T4.out.new (by first | exact Fr.refl _ _ | exact (Fr.refl _ _).alloc _)).p (by omega)).mono ?_
  rintro e wz ⟨rfl, rfl⟩
  rw [show statI [⟨1, true, false, 64, 4, home, value, 0, true, true⟩, noneR, noneR] 64 = 2 by kernel_rfl]
  go_wp2_with fail
  refine (pleave_any b rb [⟨1, true, false, 64, 4, home, value, 0, true, true⟩, noneR, noneR] 64 _ (T4.out.new (by first | exact Fr.refl _ _ | exact (Fr.refl _ _).alloc _)).p (by omega)).mono ?_
  rintro e w5 ⟨v5, rfl, h5⟩
  obtain rfl := Tb.nil h5 (by kernel_rfl)
  have T5 := Lib.hid ((T4.out.new (by first | exact Fr.refl _ _ | exact (Fr.refl _ _).alloc _)).on (l' := [⟨1, false, false, 0, 0, 0, 0, 0, false, false⟩, noneR, noneR]) h5 (by kernel_rfl))
  clear h5 T4
  go_wp2_with fail
  refine (pstatus_any b rb [⟨1, false, false, 0, 0, 0, 0, 0, false, false⟩, noneR, noneR] 64 _ (T5.out.new (by first | exact Fr.refl _ _ | exact (Fr.refl _ _).alloc _)).p (by omega)).mono ?_
  rintro e wz ⟨rfl, rfl⟩
  rw [show statI [⟨1, false, false, 0, 0, 0, 0, 0, false, false⟩, noneR, noneR] 64 = 0 by kernel_rfl]
  go_wp2_with fail
  refine (plook_any b rb [⟨1, false, false, 0, 0, 0, 0, 0, false, false⟩, noneR, noneR] 64 _ T5.out.p (by omega)).mono ?_
  rintro e w6 ⟨rfl, hn⟩
  rw [show (lookT [⟨1, false, false, 0, 0, 0, 0, 0, false, false⟩, noneR, noneR] 64).toArray = #[.int .u64 0, .int .i64 0, .int .u64 0, .int .u64 0, .int .u64 0, .bool false, .bool false] by kernel_rfl, show lookB [⟨1, false, false, 0, 0, 0, 0, 0, false, false⟩, noneR, noneR] 64 = false by kernel_rfl]
  have T6 := Lib.hid (T5.out.new (by first | exact hn | exact ((Fr.refl _ _).alloc _).trans hn))
  clear hn T5
  go_wp2_with fail
  refine (pall_any b rb [⟨1, false, false, 0, 0, 0, 0, 0, false, false⟩, noneR, noneR] _ (T6.out.new (by first | exact Fr.refl _ _ | exact (Fr.refl _ _).alloc _)).p).mono ?_
  rintro e w7 ⟨vl, rfl, hw, hn⟩
  rw [show (live [⟨1, false, false, 0, 0, 0, 0, 0, false, false⟩, noneR, noneR]).length = 0 by kernel_rfl] at hw
  obtain ⟨al, cl, rfl, _⟩ := owned_form hw
  clear hw
  have T7 := Lib.hid (T6.out.new (by first | exact hn | exact ((Fr.refl _ _).alloc _).trans hn))
  clear hn T6
  go_wp2_with fail
  refine (awake_any _ (laid_tb HG.out (T7.out.new (by first | exact Fr.refl _ _ | exact (Fr.refl _ _).alloc _)))).mono ?_
  rintro e wz ⟨rfl, hn⟩
  go_wp2
  go_ret
  exact ⟨rfl, T7.out.n.trans (by first | exact hn | exact ((Fr.refl _ _).alloc _).trans hn)⟩

set_option maxRecDepth 100000 in
set_option maxHeartbeats 4000000 in
theorem life_reap (value home : Nat) (w : World) (hg : Laid w) :
    Calls Tryd.prog 6 #[.int .u64 value, .int .u64 home, .bool true, .bool false] w fun e w' => e = .returned (.bool true) ∧ New w w' := by
  have HG := Lib.hid hg
  clear hg
  have tv : ((value : Int) != (value : Int)) = false := by simp
  have th : ((home : Int) != (home : Int)) = false := by simp
  go_enter Tryd.func6, Tryd.ntmps6
  go_wp2_with fail
  refine (tb_new 3 w (by omega) (by omega)).mono ?_
  rintro e w1 ⟨b, rb, rfl, t1⟩
  have T1 := Lib.hid (show Tb w w1 b rb [noneR, noneR, noneR] from t1)
  clear t1
  go_wp2_with fail
  refine (T1.out.born (by simp [noneR]) (i := 64) (l' := [⟨1, true, false, 64, 1, home, 0, 0, false, false⟩, noneR, noneR]) (home := home) (by kernel_rfl) (by kernel_rfl) (by kernel_rfl)).mono ?_
  rintro e w2 ⟨rfl, t2⟩
  have T2 := Lib.hid t2
  clear t2 T1
  go_wp2_with fail
  refine (pstatus_any b rb [⟨1, true, false, 64, 1, home, 0, 0, false, false⟩, noneR, noneR] 64 _ (T2.out.new (by first | exact Fr.refl _ _ | exact (Fr.refl _ _).alloc _)).p (by omega)).mono ?_
  rintro e wz ⟨rfl, rfl⟩
  rw [show statI [⟨1, true, false, 64, 1, home, 0, 0, false, false⟩, noneR, noneR] 64 = 1 by kernel_rfl]
  go_wp2_with fail
  refine (pleave_any b rb [⟨1, true, false, 64, 1, home, 0, 0, false, false⟩, noneR, noneR] 64 _ (T2.out.new (by first | exact Fr.refl _ _ | exact (Fr.refl _ _).alloc _)).p (by omega)).mono ?_
  rintro e w3 ⟨v3, rfl, h3⟩
  have S3 := Lib.hid (Tb.err (k := 8) h3 (by kernel_rfl))
  have T3 := Lib.hid ((T2.out.new (by first | exact Fr.refl _ _ | exact (Fr.refl _ _).alloc _)).on (l' := [⟨1, true, false, 64, 1, home, 0, 0, false, false⟩, noneR, noneR]) h3 (by kernel_rfl))
  clear h3 T2
  go_wp2_with fail
  refine (no_says tabL 0 8 _).mono ?_
  rintro e w4 ⟨f, rfl, hf, hn⟩
  have hfr : Fr (· = rb) w3 w4 := (by first | exact hn.mono (fun _ _ h => h.elim) | exact (((Fr.refl (fun _ => False) _).alloc _).trans hn).mono (fun _ _ h => h.elim))
  have S3 := Lib.hid (Tb.keepS T3.out (by simp) hfr S3.out)
  clear hfr
  have T4 := Lib.hid (T3.out.new (by first | exact hn | exact ((Fr.refl _ _).alloc _).trans hn))
  clear hn T3
  have Ff := Lib.hid hf
  clear hf
  go_wp2_with fail
  refine (same_says v3 f tabL _ _ (laid_tb HG.out T4.out) S3.out Ff.out).mono ?_
  rintro e w5 ⟨rfl, hn⟩
  clear S3
  clear Ff
  have T5 := Lib.hid (T4.out.new (by first | exact hn | exact ((Fr.refl _ _).alloc _).trans hn))
  clear hn T4
  go_wp2_with fail
  refine (pend_any b rb [⟨1, true, false, 64, 1, home, 0, 0, false, false⟩, noneR, noneR] 64 value _ (T5.out.new (by first | exact Fr.refl _ _ | exact (Fr.refl _ _).alloc _)).p (by omega)).mono ?_
  rintro e w6 ⟨v6, rfl, h6⟩
  obtain rfl := Tb.nil h6 (by kernel_rfl)
  have T6 := Lib.hid ((T5.out.new (by first | exact Fr.refl _ _ | exact (Fr.refl _ _).alloc _)).on (l' := [⟨1, true, false, 64, 4, home, value, 0, false, true⟩, noneR, noneR]) h6 (by kernel_rfl))
  clear h6 T5
  go_wp2_with fail
  refine (pstatus_any b rb [⟨1, true, false, 64, 4, home, value, 0, false, true⟩, noneR, noneR] 64 _ (T6.out.new (by first | exact Fr.refl _ _ | exact (Fr.refl _ _).alloc _)).p (by omega)).mono ?_
  rintro e wz ⟨rfl, rfl⟩
  rw [show statI [⟨1, true, false, 64, 4, home, value, 0, false, true⟩, noneR, noneR] 64 = 3 by kernel_rfl]
  go_wp2_with fail
  refine (preap_any b rb [⟨1, true, false, 64, 4, home, value, 0, false, true⟩, noneR, noneR] 64 _ (T6.out.new (by first | exact Fr.refl _ _ | exact (Fr.refl _ _).alloc _)).p (by omega)).mono ?_
  rintro e w7 ⟨v7, rfl, h7⟩
  obtain rfl := Tb.nil h7 (by kernel_rfl)
  rw [show reapV [⟨1, true, false, 64, 4, home, value, 0, false, true⟩, noneR, noneR] 64 = (value, home, false) by kernel_rfl]
  have T7 := Lib.hid ((T6.out.new (by first | exact Fr.refl _ _ | exact (Fr.refl _ _).alloc _)).on (l' := [⟨1, true, true, 64, 4, home, value, 0, false, true⟩, noneR, noneR]) h7 (by kernel_rfl))
  clear h7 T6
  go_wp2_with fail
  refine (pstatus_any b rb [⟨1, true, true, 64, 4, home, value, 0, false, true⟩, noneR, noneR] 64 _ (T7.out.new (by first | exact Fr.refl _ _ | exact (Fr.refl _ _).alloc _)).p (by omega)).mono ?_
  rintro e wz ⟨rfl, rfl⟩
  rw [show statI [⟨1, true, true, 64, 4, home, value, 0, false, true⟩, noneR, noneR] 64 = 0 by kernel_rfl]
  go_wp2_with fail
  refine (plook_any b rb [⟨1, true, true, 64, 4, home, value, 0, false, true⟩, noneR, noneR] 64 _ T7.out.p (by omega)).mono ?_
  rintro e w8 ⟨rfl, hn⟩
  rw [show (lookT [⟨1, true, true, 64, 4, home, value, 0, false, true⟩, noneR, noneR] 64).toArray = #[.int .u64 64, .int .i64 4, .int .u64 home, .int .u64 value, .int .u64 0, .bool false, .bool true] by kernel_rfl, show lookB [⟨1, true, true, 64, 4, home, value, 0, false, true⟩, noneR, noneR] 64 = true by kernel_rfl]
  have T8 := Lib.hid (T7.out.new (by first | exact hn | exact ((Fr.refl _ _).alloc _).trans hn))
  clear hn T7
  go_wp2_with fail
  refine (pleave_any b rb [⟨1, true, true, 64, 4, home, value, 0, false, true⟩, noneR, noneR] 64 _ (T8.out.new (by first | exact Fr.refl _ _ | exact (Fr.refl _ _).alloc _)).p (by omega)).mono ?_
  rintro e w9 ⟨v9, rfl, h9⟩
  obtain rfl := Tb.nil h9 (by kernel_rfl)
  have T9 := Lib.hid ((T8.out.new (by first | exact Fr.refl _ _ | exact (Fr.refl _ _).alloc _)).on (l' := [⟨1, false, false, 0, 0, 0, 0, 0, false, false⟩, noneR, noneR]) h9 (by kernel_rfl))
  clear h9 T8
  go_wp2_with fail
  refine (preap_any b rb [⟨1, false, false, 0, 0, 0, 0, 0, false, false⟩, noneR, noneR] 64 _ (T9.out.new (by first | exact Fr.refl _ _ | exact (Fr.refl _ _).alloc _)).p (by omega)).mono ?_
  rintro e w10 ⟨v10, rfl, h10⟩
  have S10 := Lib.hid (Tb.err (k := 7) h10 (by kernel_rfl))
  rw [show reapV [⟨1, false, false, 0, 0, 0, 0, 0, false, false⟩, noneR, noneR] 64 = (0, 0, false) by kernel_rfl]
  have T10 := Lib.hid ((T9.out.new (by first | exact Fr.refl _ _ | exact (Fr.refl _ _).alloc _)).on (l' := [⟨1, false, false, 0, 0, 0, 0, 0, false, false⟩, noneR, noneR]) h10 (by kernel_rfl))
  clear h10 T9
  go_wp2_with fail
  refine (no_says tabL 0 7 _).mono ?_
  rintro e w11 ⟨f2, rfl, hf, hn⟩
  have hfr : Fr (· = rb) w10 w11 := (by first | exact hn.mono (fun _ _ h => h.elim) | exact (((Fr.refl (fun _ => False) _).alloc _).trans hn).mono (fun _ _ h => h.elim))
  have S10 := Lib.hid (Tb.keepS T10.out (by simp) hfr S10.out)
  clear hfr
  have T11 := Lib.hid (T10.out.new (by first | exact hn | exact ((Fr.refl _ _).alloc _).trans hn))
  clear hn T10
  have Ff2 := Lib.hid hf
  clear hf
  go_wp2_with fail
  refine (same_says v10 f2 tabL _ _ (laid_tb HG.out T11.out) S10.out Ff2.out).mono ?_
  rintro e w12 ⟨rfl, hn⟩
  clear S10
  clear Ff2
  have T12 := Lib.hid (T11.out.new (by first | exact hn | exact ((Fr.refl _ _).alloc _).trans hn))
  clear hn T11
  go_wp2_with fail
  refine (pall_any b rb [⟨1, false, false, 0, 0, 0, 0, 0, false, false⟩, noneR, noneR] _ (T12.out.new (by first | exact Fr.refl _ _ | exact (Fr.refl _ _).alloc _)).p).mono ?_
  rintro e w13 ⟨vl, rfl, hw, hn⟩
  rw [show (live [⟨1, false, false, 0, 0, 0, 0, 0, false, false⟩, noneR, noneR]).length = 0 by kernel_rfl] at hw
  obtain ⟨al, cl, rfl, _⟩ := owned_form hw
  clear hw
  have T13 := Lib.hid (T12.out.new (by first | exact hn | exact ((Fr.refl _ _).alloc _).trans hn))
  clear hn T12
  go_wp2_with fail
  refine (awake_any _ (laid_tb HG.out (T13.out.new (by first | exact Fr.refl _ _ | exact (Fr.refl _ _).alloc _)))).mono ?_
  rintro e wz ⟨rfl, hn⟩
  go_wp2
  go_ret
  exact ⟨rfl, T13.out.n.trans (by first | exact hn | exact ((Fr.refl _ _).alloc _).trans hn)⟩

set_option maxRecDepth 100000 in
set_option maxHeartbeats 4000000 in
theorem life_leave (value home : Nat) (w : World) (hg : Laid w) :
    Calls Tryd.prog 6 #[.int .u64 value, .int .u64 home, .bool false, .bool false] w fun e w' => e = .returned (.bool true) ∧ New w w' := by
  have HG := Lib.hid hg
  clear hg
  have tv : ((value : Int) != (value : Int)) = false := by simp
  have th : ((home : Int) != (home : Int)) = false := by simp
  go_enter Tryd.func6, Tryd.ntmps6
  go_wp2_with fail
  refine (tb_new 3 w (by omega) (by omega)).mono ?_
  rintro e w1 ⟨b, rb, rfl, t1⟩
  have T1 := Lib.hid (show Tb w w1 b rb [noneR, noneR, noneR] from t1)
  clear t1
  go_wp2_with fail
  refine (T1.out.born (by simp [noneR]) (i := 64) (l' := [⟨1, true, false, 64, 1, home, 0, 0, false, false⟩, noneR, noneR]) (home := home) (by kernel_rfl) (by kernel_rfl) (by kernel_rfl)).mono ?_
  rintro e w2 ⟨rfl, t2⟩
  have T2 := Lib.hid t2
  clear t2 T1
  go_wp2_with fail
  refine (pstatus_any b rb [⟨1, true, false, 64, 1, home, 0, 0, false, false⟩, noneR, noneR] 64 _ (T2.out.new (by first | exact Fr.refl _ _ | exact (Fr.refl _ _).alloc _)).p (by omega)).mono ?_
  rintro e wz ⟨rfl, rfl⟩
  rw [show statI [⟨1, true, false, 64, 1, home, 0, 0, false, false⟩, noneR, noneR] 64 = 1 by kernel_rfl]
  go_wp2_with fail
  refine (pleave_any b rb [⟨1, true, false, 64, 1, home, 0, 0, false, false⟩, noneR, noneR] 64 _ (T2.out.new (by first | exact Fr.refl _ _ | exact (Fr.refl _ _).alloc _)).p (by omega)).mono ?_
  rintro e w3 ⟨v3, rfl, h3⟩
  have S3 := Lib.hid (Tb.err (k := 8) h3 (by kernel_rfl))
  have T3 := Lib.hid ((T2.out.new (by first | exact Fr.refl _ _ | exact (Fr.refl _ _).alloc _)).on (l' := [⟨1, true, false, 64, 1, home, 0, 0, false, false⟩, noneR, noneR]) h3 (by kernel_rfl))
  clear h3 T2
  go_wp2_with fail
  refine (no_says tabL 0 8 _).mono ?_
  rintro e w4 ⟨f, rfl, hf, hn⟩
  have hfr : Fr (· = rb) w3 w4 := (by first | exact hn.mono (fun _ _ h => h.elim) | exact (((Fr.refl (fun _ => False) _).alloc _).trans hn).mono (fun _ _ h => h.elim))
  have S3 := Lib.hid (Tb.keepS T3.out (by simp) hfr S3.out)
  clear hfr
  have T4 := Lib.hid (T3.out.new (by first | exact hn | exact ((Fr.refl _ _).alloc _).trans hn))
  clear hn T3
  have Ff := Lib.hid hf
  clear hf
  go_wp2_with fail
  refine (same_says v3 f tabL _ _ (laid_tb HG.out T4.out) S3.out Ff.out).mono ?_
  rintro e w5 ⟨rfl, hn⟩
  clear S3
  clear Ff
  have T5 := Lib.hid (T4.out.new (by first | exact hn | exact ((Fr.refl _ _).alloc _).trans hn))
  clear hn T4
  go_wp2_with fail
  refine (pend_any b rb [⟨1, true, false, 64, 1, home, 0, 0, false, false⟩, noneR, noneR] 64 value _ (T5.out.new (by first | exact Fr.refl _ _ | exact (Fr.refl _ _).alloc _)).p (by omega)).mono ?_
  rintro e w6 ⟨v6, rfl, h6⟩
  obtain rfl := Tb.nil h6 (by kernel_rfl)
  have T6 := Lib.hid ((T5.out.new (by first | exact Fr.refl _ _ | exact (Fr.refl _ _).alloc _)).on (l' := [⟨1, true, false, 64, 4, home, value, 0, false, true⟩, noneR, noneR]) h6 (by kernel_rfl))
  clear h6 T5
  go_wp2_with fail
  refine (pstatus_any b rb [⟨1, true, false, 64, 4, home, value, 0, false, true⟩, noneR, noneR] 64 _ (T6.out.new (by first | exact Fr.refl _ _ | exact (Fr.refl _ _).alloc _)).p (by omega)).mono ?_
  rintro e wz ⟨rfl, rfl⟩
  rw [show statI [⟨1, true, false, 64, 4, home, value, 0, false, true⟩, noneR, noneR] 64 = 3 by kernel_rfl]
  go_wp2_with fail
  refine (pleave_any b rb [⟨1, true, false, 64, 4, home, value, 0, false, true⟩, noneR, noneR] 64 _ (T6.out.new (by first | exact Fr.refl _ _ | exact (Fr.refl _ _).alloc _)).p (by omega)).mono ?_
  rintro e w7 ⟨v7, rfl, h7⟩
  obtain rfl := Tb.nil h7 (by kernel_rfl)
  have T7 := Lib.hid ((T6.out.new (by first | exact Fr.refl _ _ | exact (Fr.refl _ _).alloc _)).on (l' := [⟨1, true, false, 64, 4, home, value, 0, false, false⟩, noneR, noneR]) h7 (by kernel_rfl))
  clear h7 T6
  go_wp2_with fail
  refine (preap_any b rb [⟨1, true, false, 64, 4, home, value, 0, false, false⟩, noneR, noneR] 64 _ (T7.out.new (by first | exact Fr.refl _ _ | exact (Fr.refl _ _).alloc _)).p (by omega)).mono ?_
  rintro e w8 ⟨v8, rfl, h8⟩
  obtain rfl := Tb.nil h8 (by kernel_rfl)
  rw [show reapV [⟨1, true, false, 64, 4, home, value, 0, false, false⟩, noneR, noneR] 64 = (value, home, true) by kernel_rfl]
  have T8 := Lib.hid ((T7.out.new (by first | exact Fr.refl _ _ | exact (Fr.refl _ _).alloc _)).on (l' := [⟨1, false, false, 0, 0, 0, 0, 0, false, false⟩, noneR, noneR]) h8 (by kernel_rfl))
  clear h8 T7
  go_wp2_with fail
  refine (pstatus_any b rb [⟨1, false, false, 0, 0, 0, 0, 0, false, false⟩, noneR, noneR] 64 _ (T8.out.new (by first | exact Fr.refl _ _ | exact (Fr.refl _ _).alloc _)).p (by omega)).mono ?_
  rintro e wz ⟨rfl, rfl⟩
  rw [show statI [⟨1, false, false, 0, 0, 0, 0, 0, false, false⟩, noneR, noneR] 64 = 0 by kernel_rfl]
  go_wp2_with fail
  refine (preap_any b rb [⟨1, false, false, 0, 0, 0, 0, 0, false, false⟩, noneR, noneR] 64 _ (T8.out.new (by first | exact Fr.refl _ _ | exact (Fr.refl _ _).alloc _)).p (by omega)).mono ?_
  rintro e w9 ⟨v9, rfl, h9⟩
  have S9 := Lib.hid (Tb.err (k := 7) h9 (by kernel_rfl))
  rw [show reapV [⟨1, false, false, 0, 0, 0, 0, 0, false, false⟩, noneR, noneR] 64 = (0, 0, false) by kernel_rfl]
  have T9 := Lib.hid ((T8.out.new (by first | exact Fr.refl _ _ | exact (Fr.refl _ _).alloc _)).on (l' := [⟨1, false, false, 0, 0, 0, 0, 0, false, false⟩, noneR, noneR]) h9 (by kernel_rfl))
  clear h9 T8
  go_wp2_with fail
  refine (no_says tabL 0 7 _).mono ?_
  rintro e w10 ⟨f2, rfl, hf, hn⟩
  have hfr : Fr (· = rb) w9 w10 := (by first | exact hn.mono (fun _ _ h => h.elim) | exact (((Fr.refl (fun _ => False) _).alloc _).trans hn).mono (fun _ _ h => h.elim))
  have S9 := Lib.hid (Tb.keepS T9.out (by simp) hfr S9.out)
  clear hfr
  have T10 := Lib.hid (T9.out.new (by first | exact hn | exact ((Fr.refl _ _).alloc _).trans hn))
  clear hn T9
  have Ff2 := Lib.hid hf
  clear hf
  go_wp2_with fail
  refine (same_says v9 f2 tabL _ _ (laid_tb HG.out T10.out) S9.out Ff2.out).mono ?_
  rintro e w11 ⟨rfl, hn⟩
  clear S9
  clear Ff2
  have T11 := Lib.hid (T10.out.new (by first | exact hn | exact ((Fr.refl _ _).alloc _).trans hn))
  clear hn T10
  go_wp2_with fail
  refine (pall_any b rb [⟨1, false, false, 0, 0, 0, 0, 0, false, false⟩, noneR, noneR] _ (T11.out.new (by first | exact Fr.refl _ _ | exact (Fr.refl _ _).alloc _)).p).mono ?_
  rintro e w12 ⟨vl, rfl, hw, hn⟩
  rw [show (live [⟨1, false, false, 0, 0, 0, 0, 0, false, false⟩, noneR, noneR]).length = 0 by kernel_rfl] at hw
  obtain ⟨al, cl, rfl, _⟩ := owned_form hw
  clear hw
  have T12 := Lib.hid (T11.out.new (by first | exact hn | exact ((Fr.refl _ _).alloc _).trans hn))
  clear hn T11
  go_wp2_with fail
  refine (awake_any _ (laid_tb HG.out (T12.out.new (by first | exact Fr.refl _ _ | exact (Fr.refl _ _).alloc _)))).mono ?_
  rintro e wz ⟨rfl, hn⟩
  go_wp2
  go_ret
  exact ⟨rfl, T12.out.n.trans (by first | exact hn | exact ((Fr.refl _ _).alloc _).trans hn)⟩

theorem life_walk (value home : Nat) (rf loose : Bool) (w : World) (hg : Laid w) :
    Calls Tryd.prog 6 #[.int .u64 value, .int .u64 home, .bool rf, .bool loose] w fun e w' => e = .returned (.bool true) ∧ New w w' := by
  cases loose
  · cases rf
    · exact life_leave value home w hg
    · exact life_reap value home w hg
  · exact life_loose value home rf w hg

end Go.Proofs.YtpfkfajgbaakoaaDoor
