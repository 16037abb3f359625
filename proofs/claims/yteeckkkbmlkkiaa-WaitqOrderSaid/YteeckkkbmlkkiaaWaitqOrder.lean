/- Who came first is taken first: the statement's walk. -/
import Derived.Test.YteeckkkbmlkkiaaWaitH
namespace Go.Proofs.Yteeckkkbmlkkiaa
open Go.RowKit Go.Maps

set_option maxRecDepth 100000 in
set_option maxHeartbeats 4000000 in
theorem order_walk (xs : List Nat) (ao : Option Addr) (ca a0 : Nat) (w : World) (hx : Nats w ao xs) (hm : xs.length ≤ 9223372036854775807) (hxf : ∀ x ∈ xs, x < 18446744073709551616) (ha : a0 < 18446744073709551616) :
    Calls Try.prog 4 #[.slice ao xs.length ca, .int .u64 a0] w fun e w' => e = .returned (.bool true) ∧ New w w' := by
  obtain ⟨X, hX⟩ : ∃ X, xs.length = X := ⟨_, rfl⟩
  rw [hX] at hm ⊢
  have HX := Lib.hid hx
  have HXL := Lib.hid hX
  have HXF := Lib.hid hxf
  clear hx hX hxf
  by_cases hbig : 60 < X
  · go_enter Try.func4, Try.ntmps4
    go_wp2_with fail
    refine (awake_any _).mono ?_
    rintro e w1 ⟨rfl, hn1⟩
    have HN := Lib.hid hn1
    clear hn1
    go_wp2
    go_ret
    exact ⟨rfl, HN.out⟩
  have hl : X ≤ 60 := by omega
  obtain ⟨a, haa⟩ : ∃ a, a0 % 5 = a := ⟨_, rfl⟩
  have ha5 : a < 5 := by omega
  have HFD := fun w' (h : New w w') => filled_any xs [] ao none ca 0 w' (HX.out.keep h) (fun j x h => by simp at h) (by rw [HXL.out]; exact hl) (by simp) HXF.out (fun x h => by simp at h)
  rw [HXL.out] at HFD
  have HFD := Lib.hid HFD
  go_enter Try.func4, Try.ntmps4
  go_wp2_with fail
  refine (HFD.out _ ?_).mono ?_
  · exact Fr.refl _ _
  rintro e w1 ⟨qb, lb, mb, L, rfl, hr, hfil, hfr, hn1⟩
  have HR := Lib.hid hr
  have HN := Lib.hid hn1
  have HFI := Lib.hid hfil
  have HFR := Lib.hid hfr
  clear hr hn1 hfil hfr
  rw [show (a0 : Int) % 5 = (a : Int) by omega]
  clear haa HFD
  go_wp2_with fail
  go_loopw [6] (fun i wr => ∃ (k : Nat), k ≤ X ∧ i = .int .i64 k ∧ QRep wr qb lb mb 4 (gone L (fitsB a 1 false) k) ∧ New w wr) (fun i _ => X - (intOf i).toNat)
  case atStart => exact ⟨0, by omega, rfl, by rw [HFI.out.gone0]; exact HR.out, HN.out⟩
  case round =>
    clear HR HN
    obtain ⟨k, hk, rfl, hr, hnr⟩ := hrel
    have HR := Lib.hid hr
    have HN := Lib.hid hnr
    by_cases hlt : k < X
    · obtain ⟨x, hxk⟩ : ∃ x, xs[k]? = some x := by
        have : k < xs.length := by rw [HXL.out]; exact hlt
        exact ⟨_, List.getElem?_eq_getElem this⟩
      obtain ⟨g, off, rfl, hg1, hc1⟩ := HX.out.keep hnr k _ hxk
      obtain ⟨s, hs⟩ : ∃ s, L[k]? = some s := ⟨_, List.getElem?_eq_getElem (by rw [HFI.out.len]; exact hlt)⟩
      obtain ⟨e1, e2, e3⟩ := HFI.out.at' k s hs
      rw [List.getD_eq_getElem?_getD, hxk, Option.getD_some] at e2
      rw [show ([] : List Nat).getD k 1 = 1 from rfl] at e3
      by_cases hax : x % 5 = a
      · have hp : fitsB a 1 false s = true := by unfold fitsB; rw [e2, e3, hax, beq_self_eq_true]; kernel_rfl
        obtain ⟨t1, t2⟩ := gone_take HFI.out hs hp
        have HT := Lib.hid (take_ok qb lb mb 4 _ a 1 s wr HR.out (by omega) (by omega) t1)
        have HT2 := Lib.hid t2
        have HE1 := Lib.hid e1
        have HFR2 := Lib.hid (HFR.out.gone (fitsB a 1 false) k)
        have d1 : ((x : Int) % 5 != (a : Int)) = false := by simp; omega
        clear hr hnr t1 t2 hp e1 e2 e3 hs hxk
        go_wp2_with fail
        refine HT.out.mono ?_
        rintro e w2 ⟨rfl, hr2, hf2⟩
        rw [HE1.out] at hr2 ⊢
        rw [← HE1.out, HT2.out] at hr2
        have HR2 := Lib.hid hr2
        have HN2 := Lib.hid (New.fresh HN.out hf2 HFR2.out)
        clear hr2 hf2 HT HT2
        go_wp2_with fail
        go_roundw
        case rel => exact ⟨k + 1, by omega, by go_num, HR2.out, HN2.out⟩
        case measure => simp [intOf]; omega
      · have hp : fitsB a 1 false s = false := by unfold fitsB; rw [e2]; simp [hax]
        have HG := Lib.hid (gone_skip HFI.out hs hp)
        have d1 : ((x : Int) % 5 != (a : Int)) = true := by simp; omega
        clear hr hnr hp e1 e2 e3 hs hxk
        go_wp2_with fail
        go_roundw
        case rel => exact ⟨k + 1, by omega, by go_num, by rw [← HG.out]; exact HR.out, HN.out⟩
        case measure => simp [intOf]; omega
    · obtain rfl : k = X := by omega
      have hno := gone_all (a := a) (m := 18446744073709551615) HFI.out (fun i => rfl)
      have HT := Lib.hid (take_none qb lb mb 4 _ a 18446744073709551615 wr HR.out (by omega) (by omega) hno)
      have HNO := Lib.hid hno
      clear hr hnr hno
      go_wp2_with fail
      refine HT.out.mono ?_
      rintro e w2 ⟨rfl, hn2⟩
      have HR2 := Lib.hid (HR.out.new hn2)
      have HN2 := Lib.hid (HN.out.trans hn2)
      clear hn2
      go_wp2_with fail
      refine (has_any qb lb mb 4 _ a 18446744073709551615 w2 HR2.out (by omega) (by omega)).mono ?_
      rw [HNO.out]
      rintro e w3 ⟨rfl, hn3⟩
      have HN3 := Lib.hid (HN2.out.trans hn3)
      clear hn3
      go_wp2_with fail
      refine (awake_any _).mono ?_
      rintro e w4 ⟨rfl, hn4⟩
      have HN4 := Lib.hid (HN3.out.trans hn4)
      clear hn4
      go_wp2
      go_ret
      exact ⟨rfl, HN4.out⟩

end Go.Proofs.Yteeckkkbmlkkiaa
