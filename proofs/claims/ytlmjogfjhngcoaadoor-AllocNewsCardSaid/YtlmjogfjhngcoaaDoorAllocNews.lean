/- Between which cells there is a taker of blocks: the statement's walk. -/
import Derived.Test.YtlmjogfjhngcoaaDoorAllocI
namespace Go.Proofs.YtlmjogfjhngcoaaDoor
open Go.RowKit

theorem wide_nil (F T : Int) (h : F ≤ T) : wideN F T [] ([] : List Bk).length.succ = T - F := by
  show max (0 : Int) (gapA F T [] 0) = _
  unfold gapA startA endA
  show max (0 : Int) (T - F) = _
  omega
theorem tells_form {w : World} {v : Value} {ps : List (ByteArray × Int)} {k : Int} (h : Tells w v (some (ps, k))) : (∃ k', v = .iface 37 (.int .i64 k')) ∨ ∃ eb, v = .iface 80 (.pointer (some ⟨eb, 0, none⟩)) := errIs_form h.1

set_option maxRecDepth 100000 in
set_option maxHeartbeats 1000000 in
theorem news_none (F T : Int) (w : World) (hg : Laid w) (hb : True) :
    Calls Tryd.prog 5 #[.int .i64 F, .int .i64 T, .bool true] w fun e w' => e = .returned (.bool true) ∧ New w w' := by
  have HG := Lib.hid hg
  clear hg
  go_enter Tryd.func5, Tryd.ntmps5
  go_wp2_with fail
  refine (new_any 10 w (by omega) (by omega)).mono ?_
  rintro e w1 ⟨mb, cb, wb, rfl, _, _, _, _, hn⟩
  have HN := Lib.hid hn
  clear hn
  go_wp2_with fail
  refine (anew_none F T w1).mono ?_
  rintro e w2 ⟨x, rfl, hx, hn2⟩
  have HX := Lib.hid hx
  have HN2 := Lib.hid (HN.out.trans hn2)
  clear hx hn2 HN
  go_wp2_with fail
  refine (no_says alL 0 1 w2).mono ?_
  rintro e w3 ⟨f, rfl, hf, hn⟩
  have HN3 := Lib.hid (HN2.out.trans hn)
  have HSM := Lib.hid (same_tells x f (some ([(alL, 0)], 1)) _ (HG.out.keep HN3.out id) (HX.out.new hn) (failN_of hf) (.inl ⟨_, rfl⟩))
  clear HX hf hn HN2
  go_wp2_with fail
  refine HSM.out.mono ?_
  rintro e w4 ⟨rfl, hn⟩
  have HN4 := Lib.hid (HN3.out.trans hn)
  clear hn HN3 HSM
  go_wp2_with fail
  refine (awake_any _ (HG.out.keep HN4.out id)).mono ?_
  rintro e w5 ⟨rfl, hn⟩
  go_wp2
  go_ret
  exact ⟨rfl, HN4.out.trans hn⟩

set_option maxRecDepth 100000 in
set_option maxHeartbeats 1000000 in
theorem news_neg (F T : Int) (w : World) (hg : Laid w) (hb : F < 0) :
    Calls Tryd.prog 5 #[.int .i64 F, .int .i64 T, .bool false] w fun e w' => e = .returned (.bool true) ∧ New w w' := by
  have HG := Lib.hid hg
  clear hg
  go_enter Tryd.func5, Tryd.ntmps5
  go_wp2_with fail
  refine (new_any 10 w (by omega) (by omega)).mono ?_
  rintro e w1 ⟨mb, cb, wb, rfl, _, _, _, _, hn⟩
  have HN := Lib.hid hn
  clear hn
  go_wp2_with fail
  refine (anew_bad mb F T w1 (by omega)).mono ?_
  rintro e w2 ⟨x, rfl, hx, hn2⟩
  have HX := Lib.hid hx
  have HN2 := Lib.hid (HN.out.trans hn2)
  clear hx hn2 HN
  go_wp2_with fail
  refine (no_says alL 0 1 w2).mono ?_
  rintro e w3 ⟨f, rfl, hf, hn⟩
  have HN3 := Lib.hid (HN2.out.trans hn)
  have HSM := Lib.hid (same_tells x f (some ([(alL, 0)], 1)) _ (HG.out.keep HN3.out id) (HX.out.new hn) (failN_of hf) (.inl ⟨_, rfl⟩))
  clear HX hf hn HN2
  go_wp2_with fail
  refine HSM.out.mono ?_
  rintro e w4 ⟨rfl, hn⟩
  have HN4 := Lib.hid (HN3.out.trans hn)
  clear hn HN3 HSM
  go_wp2_with fail
  refine (awake_any _ (HG.out.keep HN4.out id)).mono ?_
  rintro e w5 ⟨rfl, hn⟩
  go_wp2
  go_ret
  exact ⟨rfl, HN4.out.trans hn⟩

set_option maxRecDepth 100000 in
set_option maxHeartbeats 1000000 in
theorem news_less (F T : Int) (w : World) (hg : Laid w) (hb : 0 ≤ F ∧ T < F) :
    Calls Tryd.prog 5 #[.int .i64 F, .int .i64 T, .bool false] w fun e w' => e = .returned (.bool true) ∧ New w w' := by
  have HG := Lib.hid hg
  clear hg
  go_enter Tryd.func5, Tryd.ntmps5
  go_wp2_with fail
  refine (new_any 10 w (by omega) (by omega)).mono ?_
  rintro e w1 ⟨mb, cb, wb, rfl, _, _, _, _, hn⟩
  have HN := Lib.hid hn
  clear hn
  go_wp2_with fail
  refine (anew_bad mb F T w1 (by omega)).mono ?_
  rintro e w2 ⟨x, rfl, hx, hn2⟩
  have HX := Lib.hid hx
  have HN2 := Lib.hid (HN.out.trans hn2)
  clear hx hn2 HN
  go_wp2_with fail
  refine (no_says alL 0 1 w2).mono ?_
  rintro e w3 ⟨f, rfl, hf, hn⟩
  have HN3 := Lib.hid (HN2.out.trans hn)
  have HSM := Lib.hid (same_tells x f (some ([(alL, 0)], 1)) _ (HG.out.keep HN3.out id) (HX.out.new hn) (failN_of hf) (.inl ⟨_, rfl⟩))
  clear HX hf hn HN2
  go_wp2_with fail
  refine HSM.out.mono ?_
  rintro e w4 ⟨rfl, hn⟩
  have HN4 := Lib.hid (HN3.out.trans hn)
  clear hn HN3 HSM
  go_wp2_with fail
  refine (awake_any _ (HG.out.keep HN4.out id)).mono ?_
  rintro e w5 ⟨rfl, hn⟩
  go_wp2
  go_ret
  exact ⟨rfl, HN4.out.trans hn⟩

set_option maxRecDepth 100000 in
set_option maxHeartbeats 4000000 in
theorem news_ok (F T : Int) (w : World) (hg : Laid w) (h1 : 0 ≤ F) (h2 : F ≤ T) (h3 : T ≤ 9223372036854775807) :
    Calls Tryd.prog 5 #[.int .i64 F, .int .i64 T, .bool false] w fun e w' => e = .returned (.bool true) ∧ New w w' := by
  have HG := Lib.hid hg
  have HW := Lib.hid (wide_nil F T h2)
  clear hg
  go_enter Tryd.func5, Tryd.ntmps5
  go_wp2_with fail
  refine (new_any 10 w (by omega) (by omega)).mono ?_
  rintro e w1 ⟨mb, cb, wb, rfl, _, _, _, _, hn⟩
  have HN := Lib.hid hn
  clear hn
  go_wp2_with fail
  refine (anew_ok mb F T w1 h1 h2 h3).mono ?_
  rintro e w2 ⟨ab, rfl, _, ha, hn2⟩
  have HA := Lib.hid ha
  have HN2 := Lib.hid (HN.out.trans hn2)
  clear ha hn2 HN
  go_wp2_with fail
  refine (used_any ab mb _ F T [] w2 HA.out).mono ?_
  rintro e w3 ⟨rfl, hn⟩
  rw [show usedN [] = 0 from rfl]
  have HA3 := Lib.hid (HA.out.new hn)
  have HN3 := Lib.hid (HN2.out.trans hn)
  clear hn HA HN2
  go_wp2_with fail
  refine (widest_any ab mb _ F T [] w3 HA3.out).mono ?_
  rintro e w4 ⟨rfl, hn⟩
  rw [show wideN F T [] (([] : List Bk).length + 1) = T - F from HW.out]
  have HA4 := Lib.hid (HA3.out.new hn)
  have HN4 := Lib.hid (HN3.out.trans hn)
  clear hn HA3 HN3
  go_wp2_with fail
  refine (lblocks_any ab mb _ F T [] 3 w4 HA4.out (by omega) (by omega)).mono ?_
  rintro e w5 ⟨v, rfl, ho, hn⟩
  obtain ⟨ao, ca, rfl, _⟩ := owned_form ho
  have HN5 := Lib.hid (HN4.out.trans hn)
  clear hn HA4 HN4 ho
  simp only [List.take_nil, List.length_nil]
  go_wp2_with fail
  refine (awake_any _ (HG.out.keep HN5.out id)).mono ?_
  rintro e w6 ⟨rfl, hn⟩
  go_wp2
  go_ret
  exact ⟨rfl, HN5.out.trans hn⟩

theorem news_walk (F T : Int) (b : Bool) (w : World) (hg : Laid w) (hT : T ≤ 9223372036854775807) :
    Calls Tryd.prog 5 #[.int .i64 F, .int .i64 T, .bool b] w fun e w' => e = .returned (.bool true) ∧ New w w' := by
  cases b with
  | true => exact news_none F T w hg trivial
  | false =>
    by_cases h1 : F < 0
    · exact news_neg F T w hg h1
    · by_cases h2 : T < F
      · exact news_less F T w hg ⟨by omega, h2⟩
      · exact news_ok F T w hg (by omega) (by omega) hT

end Go.Proofs.YtlmjogfjhngcoaaDoor
