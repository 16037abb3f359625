/- One joins, nobody else, and nobody lets loose who is joined, nor joins who is loose: the statement's walk (printed by gen_tab.py). -/
import Derived.Test.YtpfkfajgbaakoaaDoorTabI
namespace Go.Proofs.YtpfkfajgbaakoaaDoor
open Go.RowKit

set_option maxRecDepth 100000 in
set_option maxHeartbeats 4000000 in
theorem joins_loose0 (who other : Nat) (h0 : who = 0) (w : World) (hg : Laid w) :
    Calls Tryd.prog 7 #[.int .u64 who, .int .u64 other, .bool true] w fun e w' => e = .returned (.bool true) ∧ New w w' := by
  have HG := Lib.hid hg
  clear hg
  have tw : ((who : Int) == 0) = true := by rw [h0]; rfl
  clear h0
  go_enter Tryd.func7, Tryd.ntmps7
  go_wp2_with fail
  refine (tb_new 2 w (by omega) (by omega)).mono ?_
  rintro e w1 ⟨b, rb, rfl, t1⟩
  have T1 := Lib.hid (show Tb w w1 b rb [noneR, noneR] from t1)
  clear t1
  go_wp2_with fail
  refine (T1.out.born (by simp [noneR]) (i := 64) (l' := [⟨1, true, false, 64, 1, 1, 0, 0, false, false⟩, noneR]) (home := 1) (by kernel_rfl) (by kernel_rfl) (by kernel_rfl)).mono ?_
  rintro e w2 ⟨rfl, t2⟩
  have T2 := Lib.hid t2
  clear t2 T1
  go_wp2_with fail
  refine (no_says tabL 0 8 _).mono ?_
  rintro e w3 ⟨fs, rfl, hf, hn⟩
  have T3 := Lib.hid (T2.out.new (by first | exact hn | exact ((Fr.refl _ _).alloc _).trans hn))
  clear hn T2
  have Ffs := Lib.hid hf
  clear hf
  go_wp2_with fail
  refine (pjoin_any b rb [⟨1, true, false, 64, 1, 1, 0, 0, false, false⟩, noneR] 64 0 _ (T3.out.new (by first | exact Fr.refl _ _ | exact (Fr.refl _ _).alloc _)).p (by omega)).mono ?_
  rintro e w4 ⟨v4, rfl, h4⟩
  have hfr : Fr (· = rb) w3 w4 := (by first | exact Tb.frE h4 | exact (((Fr.refl _ _).alloc _).mono (fun _ _ h => h)).trans (Tb.frE h4))
  have Ffs := Lib.hid (Tb.keepF T3.out (by simp) hfr Ffs.out)
  clear hfr
  have S4 := Lib.hid (Tb.err (k := 1) h4 (by kernel_rfl))
  have T4 := Lib.hid ((T3.out.new (by first | exact Fr.refl _ _ | exact (Fr.refl _ _).alloc _)).on (l' := [⟨1, true, false, 64, 1, 1, 0, 0, false, false⟩, noneR]) h4 (by kernel_rfl))
  clear h4 T3
  go_wp2_with fail
  refine (no_says tabL 0 1 _).mono ?_
  rintro e w5 ⟨f1, rfl, hf, hn⟩
  have hfr : Fr (· = rb) w4 w5 := (by first | exact hn.mono (fun _ _ h => h.elim) | exact (((Fr.refl (fun _ => False) _).alloc _).trans hn).mono (fun _ _ h => h.elim))
  have Ffs := Lib.hid (Tb.keepF T4.out (by simp) hfr Ffs.out)
  have S4 := Lib.hid (Tb.keepS T4.out (by simp) hfr S4.out)
  clear hfr
  have T5 := Lib.hid (T4.out.new (by first | exact hn | exact ((Fr.refl _ _).alloc _).trans hn))
  clear hn T4
  have Ff1 := Lib.hid hf
  clear hf
  go_wp2_with fail
  refine (same_says v4 f1 tabL _ _ (laid_tb HG.out T5.out) S4.out Ff1.out).mono ?_
  rintro e w6 ⟨rfl, hn⟩
  clear S4
  clear Ff1
  have hfr : Fr (· = rb) w5 w6 := (by first | exact hn.mono (fun _ _ h => h.elim) | exact (((Fr.refl (fun _ => False) _).alloc _).trans hn).mono (fun _ _ h => h.elim))
  have Ffs := Lib.hid (Tb.keepF T5.out (by simp) hfr Ffs.out)
  clear hfr
  have T6 := Lib.hid (T5.out.new (by first | exact hn | exact ((Fr.refl _ _).alloc _).trans hn))
  clear hn T5
  go_wp2_with fail
  refine (ploose_any b rb [⟨1, true, false, 64, 1, 1, 0, 0, false, false⟩, noneR] 64 _ (T6.out.new (by first | exact Fr.refl _ _ | exact (Fr.refl _ _).alloc _)).p (by omega)).mono ?_
  rintro e w7 ⟨v7, rfl, h7⟩
  have hfr : Fr (· = rb) w6 w7 := (by first | exact Tb.frE h7 | exact (((Fr.refl _ _).alloc _).mono (fun _ _ h => h)).trans (Tb.frE h7))
  have Ffs := Lib.hid (Tb.keepF T6.out (by simp) hfr Ffs.out)
  clear hfr
  obtain rfl := Tb.nil h7 (by kernel_rfl)
  have T7 := Lib.hid ((T6.out.new (by first | exact Fr.refl _ _ | exact (Fr.refl _ _).alloc _)).on (l' := [⟨1, true, false, 64, 1, 1, 0, 0, true, false⟩, noneR]) h7 (by kernel_rfl))
  clear h7 T6
  go_wp2_with fail
  refine (ploose_any b rb [⟨1, true, false, 64, 1, 1, 0, 0, true, false⟩, noneR] 64 _ (T7.out.new (by first | exact Fr.refl _ _ | exact (Fr.refl _ _).alloc _)).p (by omega)).mono ?_
  rintro e w8 ⟨v8, rfl, h8⟩
  have hfr : Fr (· = rb) w7 w8 := (by first | exact Tb.frE h8 | exact (((Fr.refl _ _).alloc _).mono (fun _ _ h => h)).trans (Tb.frE h8))
  have Ffs := Lib.hid (Tb.keepF T7.out (by simp) hfr Ffs.out)
  clear hfr
  have S8 := Lib.hid (Tb.err (k := 8) h8 (by kernel_rfl))
  have T8 := Lib.hid ((T7.out.new (by first | exact Fr.refl _ _ | exact (Fr.refl _ _).alloc _)).on (l' := [⟨1, true, false, 64, 1, 1, 0, 0, true, false⟩, noneR]) h8 (by kernel_rfl))
  clear h8 T7
  go_wp2_with fail
  refine (same_says v8 fs tabL _ _ (laid_tb HG.out T8.out) S8.out Ffs.out).mono ?_
  rintro e w9 ⟨rfl, hn⟩
  clear S8
  have hfr : Fr (· = rb) w8 w9 := (by first | exact hn.mono (fun _ _ h => h.elim) | exact (((Fr.refl (fun _ => False) _).alloc _).trans hn).mono (fun _ _ h => h.elim))
  have Ffs := Lib.hid (Tb.keepF T8.out (by simp) hfr Ffs.out)
  clear hfr
  have T9 := Lib.hid (T8.out.new (by first | exact hn | exact ((Fr.refl _ _).alloc _).trans hn))
  clear hn T8
  go_wp2_with fail
  refine (pstatus_any b rb [⟨1, true, false, 64, 1, 1, 0, 0, true, false⟩, noneR] 64 _ (T9.out.new (by first | exact Fr.refl _ _ | exact (Fr.refl _ _).alloc _)).p (by omega)).mono ?_
  rintro e wz ⟨rfl, rfl⟩
  rw [show statI [⟨1, true, false, 64, 1, 1, 0, 0, true, false⟩, noneR] 64 = 2 by kernel_rfl]
  go_wp2_with fail
  refine (awake_any _ (laid_tb HG.out (T9.out.new (by first | exact Fr.refl _ _ | exact (Fr.refl _ _).alloc _)))).mono ?_
  rintro e wz ⟨rfl, hn⟩
  go_wp2
  go_ret
  exact ⟨rfl, T9.out.n.trans (by first | exact hn | exact ((Fr.refl _ _).alloc _).trans hn)⟩

set_option maxRecDepth 100000 in
set_option maxHeartbeats 4000000 in
theorem joins_loose1 (who other : Nat) (h0 : who ≠ 0) (w : World) (hg : Laid w) :
    Calls Tryd.prog 7 #[.int .u64 who, .int .u64 other, .bool true] w fun e w' => e = .returned (.bool true) ∧ New w w' := by
  have HG := Lib.hid hg
  clear hg
  have hw := h0
  have tw : ((who : Int) == 0) = false := by rw [beq_eq_false_iff_ne]; omega
  clear h0
  go_enter Tryd.func7, Tryd.ntmps7
  go_wp2_with fail
  refine (tb_new 2 w (by omega) (by omega)).mono ?_
  rintro e w1 ⟨b, rb, rfl, t1⟩
  have T1 := Lib.hid (show Tb w w1 b rb [noneR, noneR] from t1)
  clear t1
  go_wp2_with fail
  refine (T1.out.born (by simp [noneR]) (i := 64) (l' := [⟨1, true, false, 64, 1, 1, 0, 0, false, false⟩, noneR]) (home := 1) (by kernel_rfl) (by kernel_rfl) (by kernel_rfl)).mono ?_
  rintro e w2 ⟨rfl, t2⟩
  have T2 := Lib.hid t2
  clear t2 T1
  go_wp2_with fail
  refine (no_says tabL 0 8 _).mono ?_
  rintro e w3 ⟨fs, rfl, hf, hn⟩
  have T3 := Lib.hid (T2.out.new (by first | exact hn | exact ((Fr.refl _ _).alloc _).trans hn))
  clear hn T2
  have Ffs := Lib.hid hf
  clear hf
  go_wp2_with fail
  refine (pjoin_any b rb [⟨1, true, false, 64, 1, 1, 0, 0, false, false⟩, noneR] 64 0 _ (T3.out.new (by first | exact Fr.refl _ _ | exact (Fr.refl _ _).alloc _)).p (by omega)).mono ?_
  rintro e w4 ⟨v4, rfl, h4⟩
  have hfr : Fr (· = rb) w3 w4 := (by first | exact Tb.frE h4 | exact (((Fr.refl _ _).alloc _).mono (fun _ _ h => h)).trans (Tb.frE h4))
  have Ffs := Lib.hid (Tb.keepF T3.out (by simp) hfr Ffs.out)
  clear hfr
  have S4 := Lib.hid (Tb.err (k := 1) h4 (by kernel_rfl))
  have T4 := Lib.hid ((T3.out.new (by first | exact Fr.refl _ _ | exact (Fr.refl _ _).alloc _)).on (l' := [⟨1, true, false, 64, 1, 1, 0, 0, false, false⟩, noneR]) h4 (by kernel_rfl))
  clear h4 T3
  go_wp2_with fail
  refine (no_says tabL 0 1 _).mono ?_
  rintro e w5 ⟨f1, rfl, hf, hn⟩
  have hfr : Fr (· = rb) w4 w5 := (by first | exact hn.mono (fun _ _ h => h.elim) | exact (((Fr.refl (fun _ => False) _).alloc _).trans hn).mono (fun _ _ h => h.elim))
  have Ffs := Lib.hid (Tb.keepF T4.out (by simp) hfr Ffs.out)
  have S4 := Lib.hid (Tb.keepS T4.out (by simp) hfr S4.out)
  clear hfr
  have T5 := Lib.hid (T4.out.new (by first | exact hn | exact ((Fr.refl _ _).alloc _).trans hn))
  clear hn T4
  have Ff1 := Lib.hid hf
  clear hf
  go_wp2_with fail
  refine (same_says v4 f1 tabL _ _ (laid_tb HG.out T5.out) S4.out Ff1.out).mono ?_
  rintro e w6 ⟨rfl, hn⟩
  clear S4
  clear Ff1
  have hfr : Fr (· = rb) w5 w6 := (by first | exact hn.mono (fun _ _ h => h.elim) | exact (((Fr.refl (fun _ => False) _).alloc _).trans hn).mono (fun _ _ h => h.elim))
  have Ffs := Lib.hid (Tb.keepF T5.out (by simp) hfr Ffs.out)
  clear hfr
  have T6 := Lib.hid (T5.out.new (by first | exact hn | exact ((Fr.refl _ _).alloc _).trans hn))
  clear hn T5
  go_wp2_with fail
  refine (ploose_any b rb [⟨1, true, false, 64, 1, 1, 0, 0, false, false⟩, noneR] 64 _ (T6.out.new (by first | exact Fr.refl _ _ | exact (Fr.refl _ _).alloc _)).p (by omega)).mono ?_
  rintro e w7 ⟨v7, rfl, h7⟩
  have hfr : Fr (· = rb) w6 w7 := (by first | exact Tb.frE h7 | exact (((Fr.refl _ _).alloc _).mono (fun _ _ h => h)).trans (Tb.frE h7))
  have Ffs := Lib.hid (Tb.keepF T6.out (by simp) hfr Ffs.out)
  clear hfr
  obtain rfl := Tb.nil h7 (by kernel_rfl)
  have T7 := Lib.hid ((T6.out.new (by first | exact Fr.refl _ _ | exact (Fr.refl _ _).alloc _)).on (l' := [⟨1, true, false, 64, 1, 1, 0, 0, true, false⟩, noneR]) h7 (by kernel_rfl))
  clear h7 T6
  go_wp2_with fail
  refine (ploose_any b rb [⟨1, true, false, 64, 1, 1, 0, 0, true, false⟩, noneR] 64 _ (T7.out.new (by first | exact Fr.refl _ _ | exact (Fr.refl _ _).alloc _)).p (by omega)).mono ?_
  rintro e w8 ⟨v8, rfl, h8⟩
  have hfr : Fr (· = rb) w7 w8 := (by first | exact Tb.frE h8 | exact (((Fr.refl _ _).alloc _).mono (fun _ _ h => h)).trans (Tb.frE h8))
  have Ffs := Lib.hid (Tb.keepF T7.out (by simp) hfr Ffs.out)
  clear hfr
  have S8 := Lib.hid (Tb.err (k := 8) h8 (by kernel_rfl))
  have T8 := Lib.hid ((T7.out.new (by first | exact Fr.refl _ _ | exact (Fr.refl _ _).alloc _)).on (l' := [⟨1, true, false, 64, 1, 1, 0, 0, true, false⟩, noneR]) h8 (by kernel_rfl))
  clear h8 T7
  go_wp2_with fail
  refine (same_says v8 fs tabL _ _ (laid_tb HG.out T8.out) S8.out Ffs.out).mono ?_
  rintro e w9 ⟨rfl, hn⟩
  clear S8
  have hfr : Fr (· = rb) w8 w9 := (by first | exact hn.mono (fun _ _ h => h.elim) | exact (((Fr.refl (fun _ => False) _).alloc _).trans hn).mono (fun _ _ h => h.elim))
  have Ffs := Lib.hid (Tb.keepF T8.out (by simp) hfr Ffs.out)
  clear hfr
  have T9 := Lib.hid (T8.out.new (by first | exact hn | exact ((Fr.refl _ _).alloc _).trans hn))
  clear hn T8
  go_wp2_with fail
  refine (pjoin_any b rb [⟨1, true, false, 64, 1, 1, 0, 0, true, false⟩, noneR] 64 who _ (T9.out.new (by first | exact Fr.refl _ _ | exact (Fr.refl _ _).alloc _)).p (by omega)).mono ?_
  rintro e w10 ⟨v10, rfl, h10⟩
  have hfr : Fr (· = rb) w9 w10 := (by first | exact Tb.frE h10 | exact (((Fr.refl _ _).alloc _).mono (fun _ _ h => h)).trans (Tb.frE h10))
  have Ffs := Lib.hid (Tb.keepF T9.out (by simp) hfr Ffs.out)
  clear hfr
  have S10 := Lib.hid (Tb.err (k := 8) h10 (by simp [onE, onL, rowAt, joinE, joinR, hw]))
  have T10 := Lib.hid ((T9.out.new (by first | exact Fr.refl _ _ | exact (Fr.refl _ _).alloc _)).on (l' := [⟨1, true, false, 64, 1, 1, 0, 0, true, false⟩, noneR]) h10 (by simp [onE, onL, rowAt, joinE, joinR, hw]))
  clear h10 T9
  go_wp2_with fail
  refine (same_says v10 fs tabL _ _ (laid_tb HG.out T10.out) S10.out Ffs.out).mono ?_
  rintro e w11 ⟨rfl, hn⟩
  clear S10
  have hfr : Fr (· = rb) w10 w11 := (by first | exact hn.mono (fun _ _ h => h.elim) | exact (((Fr.refl (fun _ => False) _).alloc _).trans hn).mono (fun _ _ h => h.elim))
  have Ffs := Lib.hid (Tb.keepF T10.out (by simp) hfr Ffs.out)
  clear hfr
  have T11 := Lib.hid (T10.out.new (by first | exact hn | exact ((Fr.refl _ _).alloc _).trans hn))
  clear hn T10
  go_wp2_with fail
  refine (pstatus_any b rb [⟨1, true, false, 64, 1, 1, 0, 0, true, false⟩, noneR] 64 _ (T11.out.new (by first | exact Fr.refl _ _ | exact (Fr.refl _ _).alloc _)).p (by omega)).mono ?_
  rintro e wz ⟨rfl, rfl⟩
  rw [show statI [⟨1, true, false, 64, 1, 1, 0, 0, true, false⟩, noneR] 64 = 2 by kernel_rfl]
  go_wp2_with fail
  refine (awake_any _ (laid_tb HG.out (T11.out.new (by first | exact Fr.refl _ _ | exact (Fr.refl _ _).alloc _)))).mono ?_
  rintro e wz ⟨rfl, hn⟩
  go_wp2
  go_ret
  exact ⟨rfl, T11.out.n.trans (by first | exact hn | exact ((Fr.refl _ _).alloc _).trans hn)⟩

set_option maxRecDepth 100000 in
set_option maxHeartbeats 4000000 in
theorem joins_none (who other : Nat) (h0 : who = 0 ∨ other = 0) (w : World) (hg : Laid w) :
    Calls Tryd.prog 7 #[.int .u64 who, .int .u64 other, .bool false] w fun e w' => e = .returned (.bool true) ∧ New w w' := by
  have HG := Lib.hid hg
  clear hg
  obtain ⟨x, tw⟩ : ∃ x, ((who : Int) == 0) = x := ⟨_, rfl⟩
  obtain ⟨y, to⟩ : ∃ y, ((other : Int) == 0) = y := ⟨_, rfl⟩
  have hxy : x = true ∨ y = true := by rw [← tw, ← to]; simpa using h0
  clear h0
  go_enter Tryd.func7, Tryd.ntmps7
  go_wp2_with fail
  refine (tb_new 2 w (by omega) (by omega)).mono ?_
  rintro e w1 ⟨b, rb, rfl, t1⟩
  have T1 := Lib.hid (show Tb w w1 b rb [noneR, noneR] from t1)
  clear t1
  go_wp2_with fail
  refine (T1.out.born (by simp [noneR]) (i := 64) (l' := [⟨1, true, false, 64, 1, 1, 0, 0, false, false⟩, noneR]) (home := 1) (by kernel_rfl) (by kernel_rfl) (by kernel_rfl)).mono ?_
  rintro e w2 ⟨rfl, t2⟩
  have T2 := Lib.hid t2
  clear t2 T1
  go_wp2_with fail
  refine (no_says tabL 0 8 _).mono ?_
  rintro e w3 ⟨fs, rfl, hf, hn⟩
  have T3 := Lib.hid (T2.out.new (by first | exact hn | exact ((Fr.refl _ _).alloc _).trans hn))
  clear hn T2
  have Ffs := Lib.hid hf
  clear hf
  go_wp2_with fail
  refine (pjoin_any b rb [⟨1, true, false, 64, 1, 1, 0, 0, false, false⟩, noneR] 64 0 _ (T3.out.new (by first | exact Fr.refl _ _ | exact (Fr.refl _ _).alloc _)).p (by omega)).mono ?_
  rintro e w4 ⟨v4, rfl, h4⟩
  have hfr : Fr (· = rb) w3 w4 := (by first | exact Tb.frE h4 | exact (((Fr.refl _ _).alloc _).mono (fun _ _ h => h)).trans (Tb.frE h4))
  have Ffs := Lib.hid (Tb.keepF T3.out (by simp) hfr Ffs.out)
  clear hfr
  have S4 := Lib.hid (Tb.err (k := 1) h4 (by kernel_rfl))
  have T4 := Lib.hid ((T3.out.new (by first | exact Fr.refl _ _ | exact (Fr.refl _ _).alloc _)).on (l' := [⟨1, true, false, 64, 1, 1, 0, 0, false, false⟩, noneR]) h4 (by kernel_rfl))
  clear h4 T3
  go_wp2_with fail
  refine (no_says tabL 0 1 _).mono ?_
  rintro e w5 ⟨f1, rfl, hf, hn⟩
  have hfr : Fr (· = rb) w4 w5 := (by first | exact hn.mono (fun _ _ h => h.elim) | exact (((Fr.refl (fun _ => False) _).alloc _).trans hn).mono (fun _ _ h => h.elim))
  have Ffs := Lib.hid (Tb.keepF T4.out (by simp) hfr Ffs.out)
  have S4 := Lib.hid (Tb.keepS T4.out (by simp) hfr S4.out)
  clear hfr
  have T5 := Lib.hid (T4.out.new (by first | exact hn | exact ((Fr.refl _ _).alloc _).trans hn))
  clear hn T4
  have Ff1 := Lib.hid hf
  clear hf
  go_wp2_with fail
  refine (same_says v4 f1 tabL _ _ (laid_tb HG.out T5.out) S4.out Ff1.out).mono ?_
  rintro e w6 ⟨rfl, hn⟩
  clear S4
  clear Ff1
  have hfr : Fr (· = rb) w5 w6 := (by first | exact hn.mono (fun _ _ h => h.elim) | exact (((Fr.refl (fun _ => False) _).alloc _).trans hn).mono (fun _ _ h => h.elim))
  have Ffs := Lib.hid (Tb.keepF T5.out (by simp) hfr Ffs.out)
  clear hfr
  have T6 := Lib.hid (T5.out.new (by first | exact hn | exact ((Fr.refl _ _).alloc _).trans hn))
  clear hn T5
  cases x <;> cases y
  all_goals first | (exfalso; revert hxy; simp; done) | skip
  all_goals
    go_wp2_with fail
    refine (pstatus_any b rb [⟨1, true, false, 64, 1, 1, 0, 0, false, false⟩, noneR] 64 _ (T6.out.new (by first | exact Fr.refl _ _ | exact (Fr.refl _ _).alloc _)).p (by omega)).mono ?_
    rintro e wz ⟨rfl, rfl⟩
    rw [show statI [⟨1, true, false, 64, 1, 1, 0, 0, false, false⟩, noneR] 64 = 1 by kernel_rfl]
    go_wp2_with fail
    refine (awake_any _ (laid_tb HG.out (T6.out.new (by first | exact Fr.refl _ _ | exact (Fr.refl _ _).alloc _)))).mono ?_
    rintro e wz ⟨rfl, hn⟩
    go_wp2
    go_ret
    exact ⟨rfl, T6.out.n.trans (by first | exact hn | exact ((Fr.refl _ _).alloc _).trans hn)⟩

set_option maxRecDepth 100000 in
set_option maxHeartbeats 4000000 in
theorem joins_both (who other : Nat) (h0 : who ≠ 0 ∧ other ≠ 0) (w : World) (hg : Laid w) :
    Calls Tryd.prog 7 #[.int .u64 who, .int .u64 other, .bool false] w fun e w' => e = .returned (.bool true) ∧ New w w' := by
  have HG := Lib.hid hg
  clear hg
  obtain ⟨hw, ho⟩ := h0
  have tw : ((who : Int) == 0) = false := by rw [beq_eq_false_iff_ne]; omega
  have to : ((other : Int) == 0) = false := by rw [beq_eq_false_iff_ne]; omega
  have ts : ((who : Int) == (who : Int)) = true := by simp
  go_enter Tryd.func7, Tryd.ntmps7
  go_wp2_with fail
  refine (tb_new 2 w (by omega) (by omega)).mono ?_
  rintro e w1 ⟨b, rb, rfl, t1⟩
  have T1 := Lib.hid (show Tb w w1 b rb [noneR, noneR] from t1)
  clear t1
  go_wp2_with fail
  refine (T1.out.born (by simp [noneR]) (i := 64) (l' := [⟨1, true, false, 64, 1, 1, 0, 0, false, false⟩, noneR]) (home := 1) (by kernel_rfl) (by kernel_rfl) (by kernel_rfl)).mono ?_
  rintro e w2 ⟨rfl, t2⟩
  have T2 := Lib.hid t2
  clear t2 T1
  go_wp2_with fail
  refine (no_says tabL 0 8 _).mono ?_
  rintro e w3 ⟨fs, rfl, hf, hn⟩
  have T3 := Lib.hid (T2.out.new (by first | exact hn | exact ((Fr.refl _ _).alloc _).trans hn))
  clear hn T2
  have Ffs := Lib.hid hf
  clear hf
  go_wp2_with fail
  refine (pjoin_any b rb [⟨1, true, false, 64, 1, 1, 0, 0, false, false⟩, noneR] 64 0 _ (T3.out.new (by first | exact Fr.refl _ _ | exact (Fr.refl _ _).alloc _)).p (by omega)).mono ?_
  rintro e w4 ⟨v4, rfl, h4⟩
  have hfr : Fr (· = rb) w3 w4 := (by first | exact Tb.frE h4 | exact (((Fr.refl _ _).alloc _).mono (fun _ _ h => h)).trans (Tb.frE h4))
  have Ffs := Lib.hid (Tb.keepF T3.out (by simp) hfr Ffs.out)
  clear hfr
  have S4 := Lib.hid (Tb.err (k := 1) h4 (by kernel_rfl))
  have T4 := Lib.hid ((T3.out.new (by first | exact Fr.refl _ _ | exact (Fr.refl _ _).alloc _)).on (l' := [⟨1, true, false, 64, 1, 1, 0, 0, false, false⟩, noneR]) h4 (by kernel_rfl))
  clear h4 T3
  go_wp2_with fail
  refine (no_says tabL 0 1 _).mono ?_
  rintro e w5 ⟨f1, rfl, hf, hn⟩
  have hfr : Fr (· = rb) w4 w5 := (by first | exact hn.mono (fun _ _ h => h.elim) | exact (((Fr.refl (fun _ => False) _).alloc _).trans hn).mono (fun _ _ h => h.elim))
  have Ffs := Lib.hid (Tb.keepF T4.out (by simp) hfr Ffs.out)
  have S4 := Lib.hid (Tb.keepS T4.out (by simp) hfr S4.out)
  clear hfr
  have T5 := Lib.hid (T4.out.new (by first | exact hn | exact ((Fr.refl _ _).alloc _).trans hn))
  clear hn T4
  have Ff1 := Lib.hid hf
  clear hf
  go_wp2_with fail
  refine (same_says v4 f1 tabL _ _ (laid_tb HG.out T5.out) S4.out Ff1.out).mono ?_
  rintro e w6 ⟨rfl, hn⟩
  clear S4
  clear Ff1
  have hfr : Fr (· = rb) w5 w6 := (by first | exact hn.mono (fun _ _ h => h.elim) | exact (((Fr.refl (fun _ => False) _).alloc _).trans hn).mono (fun _ _ h => h.elim))
  have Ffs := Lib.hid (Tb.keepF T5.out (by simp) hfr Ffs.out)
  clear hfr
  have T6 := Lib.hid (T5.out.new (by first | exact hn | exact ((Fr.refl _ _).alloc _).trans hn))
  clear hn T5
  go_wp2_with fail
  refine (pjoin_any b rb [⟨1, true, false, 64, 1, 1, 0, 0, false, false⟩, noneR] 64 who _ (T6.out.new (by first | exact Fr.refl _ _ | exact (Fr.refl _ _).alloc _)).p (by omega)).mono ?_
  rintro e w7 ⟨v7, rfl, h7⟩
  have hfr : Fr (· = rb) w6 w7 := (by first | exact Tb.frE h7 | exact (((Fr.refl _ _).alloc _).mono (fun _ _ h => h)).trans (Tb.frE h7))
  have Ffs := Lib.hid (Tb.keepF T6.out (by simp) hfr Ffs.out)
  clear hfr
  obtain rfl := Tb.nil h7 (by simp [onE, onL, rowAt, joinE, joinR, hw])
  have T7 := Lib.hid ((T6.out.new (by first | exact Fr.refl _ _ | exact (Fr.refl _ _).alloc _)).on (l' := [⟨1, true, false, 64, 1, 1, 0, who, false, false⟩, noneR]) h7 (by simp [onE, onL, rowAt, joinE, joinR, hw]))
  clear h7 T6
  go_wp2_with fail
  refine (pjoin_any b rb [⟨1, true, false, 64, 1, 1, 0, who, false, false⟩, noneR] 64 other _ (T7.out.new (by first | exact Fr.refl _ _ | exact (Fr.refl _ _).alloc _)).p (by omega)).mono ?_
  rintro e w8 ⟨v8, rfl, h8⟩
  have hfr : Fr (· = rb) w7 w8 := (by first | exact Tb.frE h8 | exact (((Fr.refl _ _).alloc _).mono (fun _ _ h => h)).trans (Tb.frE h8))
  have Ffs := Lib.hid (Tb.keepF T7.out (by simp) hfr Ffs.out)
  clear hfr
  have S8 := Lib.hid (Tb.err (k := 8) h8 (by simp [onE, onL, rowAt, joinE, joinR, hw, ho]))
  have T8 := Lib.hid ((T7.out.new (by first | exact Fr.refl _ _ | exact (Fr.refl _ _).alloc _)).on (l' := [⟨1, true, false, 64, 1, 1, 0, who, false, false⟩, noneR]) h8 (by simp [onE, onL, rowAt, joinE, joinR, hw, ho]))
  clear h8 T7
  go_wp2_with fail
  refine (same_says v8 fs tabL _ _ (laid_tb HG.out T8.out) S8.out Ffs.out).mono ?_
  rintro e w9 ⟨rfl, hn⟩
  clear S8
  have hfr : Fr (· = rb) w8 w9 := (by first | exact hn.mono (fun _ _ h => h.elim) | exact (((Fr.refl (fun _ => False) _).alloc _).trans hn).mono (fun _ _ h => h.elim))
  have Ffs := Lib.hid (Tb.keepF T8.out (by simp) hfr Ffs.out)
  clear hfr
  have T9 := Lib.hid (T8.out.new (by first | exact hn | exact ((Fr.refl _ _).alloc _).trans hn))
  clear hn T8
  go_wp2_with fail
  refine (ploose_any b rb [⟨1, true, false, 64, 1, 1, 0, who, false, false⟩, noneR] 64 _ (T9.out.new (by first | exact Fr.refl _ _ | exact (Fr.refl _ _).alloc _)).p (by omega)).mono ?_
  rintro e w10 ⟨v10, rfl, h10⟩
  have hfr : Fr (· = rb) w9 w10 := (by first | exact Tb.frE h10 | exact (((Fr.refl _ _).alloc _).mono (fun _ _ h => h)).trans (Tb.frE h10))
  have Ffs := Lib.hid (Tb.keepF T9.out (by simp) hfr Ffs.out)
  clear hfr
  have S10 := Lib.hid (Tb.err (k := 8) h10 (by simp [onE, onL, rowAt, looseE, looseR, hw]))
  have T10 := Lib.hid ((T9.out.new (by first | exact Fr.refl _ _ | exact (Fr.refl _ _).alloc _)).on (l' := [⟨1, true, false, 64, 1, 1, 0, who, false, false⟩, noneR]) h10 (by simp [onE, onL, rowAt, looseE, looseR, hw]))
  clear h10 T9
  go_wp2_with fail
  refine (same_says v10 fs tabL _ _ (laid_tb HG.out T10.out) S10.out Ffs.out).mono ?_
  rintro e w11 ⟨rfl, hn⟩
  clear S10
  clear Ffs
  have T11 := Lib.hid (T10.out.new (by first | exact hn | exact ((Fr.refl _ _).alloc _).trans hn))
  clear hn T10
  go_wp2_with fail
  refine (pstatus_any b rb [⟨1, true, false, 64, 1, 1, 0, who, false, false⟩, noneR] 64 _ (T11.out.new (by first | exact Fr.refl _ _ | exact (Fr.refl _ _).alloc _)).p (by omega)).mono ?_
  rintro e wz ⟨rfl, rfl⟩
  rw [show statI [⟨1, true, false, 64, 1, 1, 0, who, false, false⟩, noneR] 64 = 4 by simp [statI, statR, rowAt, hw]]
  go_wp2_with fail
  refine (plook_any b rb [⟨1, true, false, 64, 1, 1, 0, who, false, false⟩, noneR] 64 _ T11.out.p (by omega)).mono ?_
  rintro e w12 ⟨rfl, hn⟩
  rw [show (lookT [⟨1, true, false, 64, 1, 1, 0, who, false, false⟩, noneR] 64).toArray = #[.int .u64 64, .int .i64 1, .int .u64 1, .int .u64 0, .int .u64 who, .bool false, .bool false] by kernel_rfl, show lookB [⟨1, true, false, 64, 1, 1, 0, who, false, false⟩, noneR] 64 = true by kernel_rfl]
  have T12 := Lib.hid (T11.out.new (by first | exact hn | exact ((Fr.refl _ _).alloc _).trans hn))
  clear hn T11
  go_wp2_with fail
  refine (pend_any b rb [⟨1, true, false, 64, 1, 1, 0, who, false, false⟩, noneR] 64 5 _ (T12.out.new (by first | exact Fr.refl _ _ | exact (Fr.refl _ _).alloc _)).p (by omega)).mono ?_
  rintro e w13 ⟨v13, rfl, h13⟩
  obtain rfl := Tb.nil h13 (by kernel_rfl)
  have T13 := Lib.hid ((T12.out.new (by first | exact Fr.refl _ _ | exact (Fr.refl _ _).alloc _)).on (l' := [⟨1, true, false, 64, 4, 1, 5, who, false, true⟩, noneR]) h13 (by kernel_rfl))
  clear h13 T12
  go_wp2_with fail
  refine (pstatus_any b rb [⟨1, true, false, 64, 4, 1, 5, who, false, true⟩, noneR] 64 _ (T13.out.new (by first | exact Fr.refl _ _ | exact (Fr.refl _ _).alloc _)).p (by omega)).mono ?_
  rintro e wz ⟨rfl, rfl⟩
  rw [show statI [⟨1, true, false, 64, 4, 1, 5, who, false, true⟩, noneR] 64 = 4 by simp [statI, statR, rowAt, hw]]
  go_wp2_with fail
  refine (awake_any _ (laid_tb HG.out (T13.out.new (by first | exact Fr.refl _ _ | exact (Fr.refl _ _).alloc _)))).mono ?_
  rintro e wz ⟨rfl, hn⟩
  go_wp2
  go_ret
  exact ⟨rfl, T13.out.n.trans (by first | exact hn | exact ((Fr.refl _ _).alloc _).trans hn)⟩

theorem joins_walk (who other : Nat) (lf : Bool) (w : World) (hg : Laid w) :
    Calls Tryd.prog 7 #[.int .u64 who, .int .u64 other, .bool lf] w fun e w' => e = .returned (.bool true) ∧ New w w' := by
  cases lf
  · by_cases h : who = 0 ∨ other = 0
    · exact joins_none who other h w hg
    · exact joins_both who other ⟨fun e => h (.inl e), fun e => h (.inr e)⟩ w hg
  · by_cases h : who = 0
    · exact joins_loose0 who other h w hg
    · exact joins_loose1 who other h w hg

end Go.Proofs.YtpfkfajgbaakoaaDoor
