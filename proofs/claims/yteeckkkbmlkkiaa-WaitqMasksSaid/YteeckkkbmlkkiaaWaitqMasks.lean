/- Who is taken has a mask that meets; who has none in common stays: the statement's walk. -/
import Derived.Test.YteeckkkbmlkkiaaWaitH
namespace Go.Proofs.Yteeckkkbmlkkiaa
open Go.RowKit Go.Maps

theorem u64Info : (Try.prog.info? 23).map (fun i => (i.zero, i.size, i.bytes)) = some (some (.int .u64 0), 1, 8) := by kernel_rfl
theorem nats_zero {w : World} {b n : Nat} (h : Arr w b ((List.replicate n ()).flatMap fun _ => [Value.int .u64 0])) : Nats w (some ⟨b, 0, none⟩) (List.replicate n 0) := by
  intro j x hj
  rw [List.getElem?_replicate] at hj
  split at hj
  · rename_i hlt
    obtain rfl := Option.some.inj hj
    refine ⟨b, 0, rfl, h.lt, ?_⟩
    rw [Nat.zero_add]
    have := h.row (f := fun _ : Unit => [Value.int .u64 0]) (n := 1) (fun _ => rfl) (l := List.replicate n ()) (p := j) (a := ()) (by simp [hlt]) 0 _ rfl
    simpa using this
  · cases hj
theorem zero_getD (n k : Nat) : (List.replicate n 0).getD k 0 = 0 := by
  rw [List.getD_eq_getElem?_getD, List.getElem?_replicate]; split <;> rfl
/-- The bits' test, both ways. -/
theorem meet_spell {m k : Nat} {b : Bool} (h : meetB m k = b) : (bits .and .u64 (m : Int) (k : Int) == 0) = !b := by
  rw [← h]; unfold meetB
  simp [bne]

set_option maxRecDepth 100000 in
set_option maxHeartbeats 4000000 in
theorem masks_walk (ms : List Nat) (bo : Option Addr) (ca mask : Nat) (w : World) (hx : Nats w bo ms) (hm : ms.length ≤ 9223372036854775807) (hxf : ∀ x ∈ ms, x < 18446744073709551616) (ha : mask < 18446744073709551616) :
    Calls Try.prog 3 #[.slice bo ms.length ca, .int .u64 mask] w fun e w' => e = .returned (.bool true) ∧ New w w' := by
  obtain ⟨X, hX⟩ : ∃ X, ms.length = X := ⟨_, rfl⟩
  rw [hX] at hm ⊢
  have HX := Lib.hid hx
  have HXL := Lib.hid hX
  have HXF := Lib.hid hxf
  clear hx hX hxf
  by_cases hbig : 60 < X
  · go_enter Try.func3, Try.ntmps3
    go_wp2_with fail
    refine (awake_any _).mono ?_
    rintro e w1 ⟨rfl, hn1⟩
    have HN := Lib.hid hn1
    clear hn1
    go_wp2
    go_ret
    exact ⟨rfl, HN.out⟩
  have hl : X ≤ 60 := by omega
  obtain ⟨i0, hi, hz0, hz1, hz2⟩ := info_parts u64Info
  go_enter Try.func3, Try.ntmps3
  go_wp2_with (at_make; refine wpList_make_full _ rfl (.tmp 17) (.tmp 17) 22 rfl w.heap.size 23 i0 _ 1 Try.underlying22 hi hz0 hz1 .i64 .i64 X X X rfl rfl rfl rfl (by rw [hz2]; omega) (by unfold maxLen; omega) (by omega) ?_; intro w1 hown hgrow)
  have hrow := Arr.of_owns hown
  rw [show (madeCells (Value.int .u64 0).cells (X * 1)).toList = (List.replicate X ()).flatMap fun _ => [Value.int .u64 0] from madeRows [.int .u64 0] (by simp) X] at hrow
  have f1 : New w w1 := (Fr.refl _ _).grown hgrow (fun _ h => by cases h)
  have hfd := filled_any (List.replicate X 0) ms (some ⟨w.heap.size, 0, none⟩) bo X ca w1 (nats_zero hrow) (HX.out.keep f1) (by simp; omega) (by rw [HXL.out]; omega) (fun x hx => by rw [(List.mem_replicate.1 hx).2]; omega) HXF.out
  rw [List.length_replicate, HXL.out] at hfd
  have HFD := Lib.hid hfd
  have F1 := Lib.hid f1
  clear hfd f1 hrow hown hgrow hi hz0 hz1 hz2
  refine HFD.out.mono ?_
  rintro e w2 ⟨qb, lb, mb, L, rfl, hr, hfil, hfr, hn2⟩
  have HR := Lib.hid hr
  have HN := Lib.hid (F1.out.trans hn2)
  have HFI := Lib.hid hfil
  have HFR := Lib.hid (show Fresh w.heap.size qb lb mb L from fun k hk => Nat.le_trans F1.out.size (hfr k hk))
  clear hr hn2 hfil hfr HFD
  go_wp2_with fail
  go_loopw [6, 7] (fun c i wr => ∃ (k n : Nat), k ≤ X ∧ n ≤ k ∧ i = .int .i64 k ∧ c = .int .i64 n ∧ QRep wr qb lb mb 4 (gone L (fitsB 0 mask false) k) ∧ (gone L (fitsB 0 mask false) k).length = n + (X - k) ∧ New w wr) (fun _ i _ => X - (intOf i).toNat)
  case atStart => exact ⟨0, 0, by omega, by omega, rfl, rfl, by rw [HFI.out.gone0]; exact HR.out, by rw [HFI.out.gone0, HFI.out.len]; omega, HN.out⟩
  case round =>
    clear HR HN
    obtain ⟨k, n, hk, hnk, rfl, rfl, hr, hlen, hnr⟩ := hrel
    have HR := Lib.hid hr
    have HN := Lib.hid hnr
    have HLEN := Lib.hid hlen
    by_cases hlt : k < X
    · obtain ⟨m, hmk⟩ : ∃ m, ms[k]? = some m := by
        have : k < ms.length := by rw [HXL.out]; exact hlt
        exact ⟨_, List.getElem?_eq_getElem this⟩
      obtain ⟨g, off, rfl, hg1, hc1⟩ := HX.out.keep hnr k _ hmk
      obtain ⟨s, hs⟩ : ∃ s, L[k]? = some s := ⟨_, List.getElem?_eq_getElem (by rw [HFI.out.len]; exact hlt)⟩
      obtain ⟨e1, e2, e3⟩ := HFI.out.at' k s hs
      rw [zero_getD] at e2
      rw [List.getD_eq_getElem?_getD, hmk, Option.getD_some] at e3
      have hfb : fitsB 0 mask false s = meetB m mask := by unfold fitsB; rw [e2, e3]; simp
      cases hmm : meetB m mask with
      | true =>
        obtain ⟨t1, t2⟩ := gone_take HFI.out hs (hfb.trans hmm)
        have hwl := without_length HR.out.once (hasId_iff.2 ⟨s, firstOf_mem t1, rfl⟩)
        rw [t2] at hwl
        have HT := Lib.hid (take_ok qb lb mb 4 _ 0 mask s wr HR.out (by omega) (by omega) t1)
        have HT2 := Lib.hid t2
        have HE1 := Lib.hid e1
        have HWL := Lib.hid hwl
        have HFR2 := Lib.hid (HFR.out.gone (fitsB 0 mask false) k)
        have d1 := meet_spell hmm
        clear hr hnr t1 t2 hfb hmm e1 e2 e3 hs hmk hwl hlen
        go_wp2_with fail
        refine HT.out.mono ?_
        rintro e w3 ⟨rfl, hr2, hf2⟩
        rw [HE1.out] at hr2 ⊢
        rw [← HE1.out, HT2.out] at hr2
        have HR2 := Lib.hid hr2
        have HN2 := Lib.hid (New.fresh HN.out hf2 HFR2.out)
        clear hr2 hf2 HT HT2
        go_wp2_with fail
        go_roundw
        case rel => exact ⟨k + 1, n, by omega, by omega, by go_num, rfl, HR2.out, by have := HWL.out; have := HLEN.out; omega, HN2.out⟩
        case measure => simp [intOf]; omega
      | false =>
        have hg := gone_skip HFI.out hs (hfb.trans hmm)
        have HG := Lib.hid hg
        have d1 := meet_spell hmm
        clear hr hnr hg hfb hmm e1 e2 e3 hs hmk hlen
        go_wp2_with fail
        go_roundw
        case rel => exact ⟨k + 1, n + 1, by omega, by omega, by go_num, by go_num, by rw [← HG.out]; exact HR.out, by rw [← HG.out]; have := HLEN.out; omega, HN.out⟩
        case measure => simp [intOf]; omega
    · obtain rfl : k = X := by omega
      have hno := gone_none HFI.out (P := fitsB 0 mask false)
      have HT := Lib.hid (take_none qb lb mb 4 _ 0 mask wr HR.out (by omega) (by omega) hno)
      have HLN := Lib.hid (show (gone L (fitsB 0 mask false) k).length = n by have := HLEN.out; omega)
      clear hr hnr hno hlen
      go_wp2_with fail
      refine HT.out.mono ?_
      rintro e w3 ⟨rfl, hn3⟩
      have HR2 := Lib.hid (HR.out.new hn3)
      have HN2 := Lib.hid (HN.out.trans hn3)
      clear hn3
      go_wp2_with fail
      refine (len_any qb lb mb 4 _ w3 HR2.out).mono ?_
      rw [HLN.out]
      rintro e w4 ⟨rfl, rfl⟩
      go_wp2_with fail
      refine (awake_any _).mono ?_
      rintro e w4 ⟨rfl, hn4⟩
      have HN4 := Lib.hid (HN2.out.trans hn4)
      clear hn4
      go_wp2
      go_ret
      exact ⟨rfl, HN4.out⟩

end Go.Proofs.Yteeckkkbmlkkiaa
