/- One call at both memories, whichever; all cells looked at. -/
import Derived.Test.YtfppipbdmjnbcaaDoorMemN
import Derived.Test.YtfppipbdmjnbcaaDoorMemF
import Derived.Test.YtfppipbdmjnbcaaDoorRecs
namespace Go.Proofs.YtfppipbdmjnbcaaDoor
open Go.RowKit

set_option maxRecDepth 100000 in
set_option maxHeartbeats 4000000 in
theorem do_store (b cb wb rb rwb rhb : Nat) (cs ws : List Nat) (ct : Nat) (d at_ n W : Int) (A o v : Nat) (w : World) (hg : Laid w) (h : Sync w b cb wb rb rwb rhb cs ws ct) (hd : -9223372036854775808 ≤ d ∧ d ≤ 9223372036854775807) (hq : d % 9 = 4)
    (hA : A < 18446744073709551616) (ho : o < 18446744073709551616) (hv : v < 18446744073709551616) (hct : ct + 1 < 1000000000) (hgl : ∀ k, Six b cb wb rb rwb rhb k → k ≠ 0) :
    Calls Tryd.prog 21 #[.pointer (some ⟨b, 0, none⟩), .pointer (some ⟨rb, 0, none⟩), .agg #[.int .i64 d, .int .i64 at_, .int .i64 n, .int .i64 W, .int .u64 A, .int .u64 o, .int .u64 v]] w fun e w' => e = .returned (.bool true) ∧
      Synced w' b cb wb rb rwb rhb ws.length ct ∧ Fr (Six b cb wb rb rwb rhb) w w' := by
  have hwi := fun w => within_any d 9 w (by omega) (by omega) hd.1 hd.2
  rw [hq] at hwi
  have HWI := Lib.hid hwi
  have H := Lib.hid h
  have HG := Lib.hid hg
  have hlen := h.r.len.2
  have hbl := h.m.hd.lt
  have hcl := h.m.cells.lt
  have hwl := h.m.widths.lt
  have hrl := h.r.hd.lt
  have hrwl := h.r.widths.lt
  have hrhl := h.r.holds.lt
  have hab := h.ab
  have hac := h.ac
  have haw := h.aw
  clear hwi hq h hg
  go_enter Tryd.func21, Tryd.ntmps21
  go_wp2_with fail
  obtain ⟨W0, hW0⟩ : ∃ W0, w.alloc (.cells #[.int .i64 d, .int .i64 at_, .int .i64 n, .int .i64 W, .int .u64 A, .int .u64 o, .int .u64 v] 50) = W0 := ⟨_, rfl⟩
  have hx0 : Arr W0 w.heap.size [.int .i64 d, .int .i64 at_, .int .i64 n, .int .i64 W, .int .u64 A, .int .u64 o, .int .u64 v] := by rw [← hW0]; exact Arr.new _ _ _
  have hn0 : New w W0 := by rw [← hW0]; exact (Fr.refl _ _).alloc _
  have hxlt := hx0.lt
  rw [hW0]
  have x0 := hx0.cell 0 _ rfl
  have x4 := hx0.cell 4 _ rfl
  have x5 := hx0.cell 5 _ rfl
  have x6 := hx0.cell 6 _ rfl
  have HN0 := Lib.hid hn0
  have HS0 := Lib.hid (H.out.keep hn0 (fun _ _ => id))
  have HG0 := Lib.hid (HG.out.keep hn0 id)
  have hz0 : w.heap.size < W0.drew.heap.size := hxlt
  clear hx0 hn0 hW0 H HG
  have hsame : accCs 1 cs ws A 0 v = accCs 1 cs ws A o v := laid_store cs ws A o v
  have hcall := store_all b cb wb cs ws (cnt ws) ct A v W0 HS0.out.m (by omega) hv hA
  rw [hsame] at hcall
  have HCA := Lib.hid hcall
  have t0 : (((accVal cs ws A : Nat) : Int) == ((accVal cs ws A : Nat) : Int)) = true := by simp
  have HAV := Lib.hid (rfl : accVal cs ws A = accVal cs ws A)
  have hav := acc_lt (ws := ws) HS0.out.r.fits A
  clear hcall hsame
  generalize hy : accVal cs ws A = y at HCA t0 hav
  have HY := Lib.hid hy
  clear hy HAV
  go_wp2_with (go_at_call 16; refine (HWI.out _).mono ?_; rintro e w' ⟨rfl, rfl⟩)
  refine HCA.out.mono ?_
  rintro e w1 ⟨x, rfl, hx, hr, hf⟩
  have y4 := (hf.cell (b := w.heap.size) hxlt (by omega) 4).trans x4
  have y5 := (hf.cell (b := w.heap.size) hxlt (by omega) 5).trans x5
  have y6 := (hf.cell (b := w.heap.size) hxlt (by omega) 6).trans x6
  have hrd := rdo_any 1 rb rwb rhb cs ws ct A o v w1 (by omega) (HS0.out.r.keep hf (by omega) (by omega) (by omega)) hct hv ho hA
  rw [HY.out] at hrd
  have HRD := Lib.hid hrd
  have HX := Lib.hid hx
  have HM := Lib.hid hr
  have HF := Lib.hid hf
  have hz1 := hf.size
  clear hrd hx hr hf x0 x4 x5 x6 HCA HWI
  go_wp2_with fail
  refine HRD.out.mono ?_
  rintro e w2 ⟨f, rfl, hfl, hr2, hf2⟩
  have hx2 := Says.keepIf hf2 HX.out
  have hm2 := HM.out.keep hf2 (by omega) (by omega) (by omega)
  have hsy : Synced w2 b cb wb rb rwb rhb ws.length ct := ⟨_, _, _, ⟨hm2, hr2, hab, hac, haw⟩, rfl, by unfold accN; split <;> omega⟩
  have hfr : Fr (fun k => Six b cb wb rb rwb rhb k) w w2 := ((HN0.out.mono (fun _ _ h => h.elim)).trans (HF.out.mono (fun _ _ h => .inl (h.2.elim .inl (fun e => .inr (.inl e)))))).trans (hf2.mono (fun _ _ h => .inr (h.2.elim (fun e => .inl e) (fun e => .inr (.inr e)))))
  have hg2 : Laid w2 := (HG0.out.keep HF.out (fun h => hgl _ (.inl (h.2.elim .inl (fun e => .inr (.inl e)))) rfl)).keep hf2 (fun h => hgl _ (.inr (h.2.elim .inl (fun e => .inr (.inr e)))) rfl)
  have HSM := Lib.hid (same_says x f memL _ w2 hg2 hx2 hfl)
  have HSY := Lib.hid hsy
  have HFR := Lib.hid hfr
  clear hsy hfr hx2 hfl hg2 hf2 hr2 hm2 HX HM HRD y4 y5 y6
  go_wp2_with fail
  refine HSM.out.mono ?_
  rintro e w3 ⟨rfl, hn3⟩
  have HSY3 := Lib.hid (HSY.out.keep hn3 (fun _ _ => id))
  have HFR3 := Lib.hid (HFR.out.trans (hn3.mono (fun _ _ h => h.elim)))
  clear hn3 HSY HFR HSM
  go_wp2
  all_goals
    go_ret
    exact ⟨rfl, HSY3.out, HFR3.out⟩


theorem do_any (b cb wb rb rwb rhb : Nat) (cs ws : List Nat) (ct : Nat) (d at_ n W : Int) (A o v : Nat) (w : World) (hg : Laid w) (h : Sync w b cb wb rb rwb rhb cs ws ct) (hd : -9223372036854775808 ≤ d ∧ d ≤ 9223372036854775807)
    (hat : -9223372036854775808 ≤ at_ ∧ at_ ≤ 9223372036854775807) (hn : -9223372036854775808 ≤ n ∧ n ≤ 9223372036854775807)
    (hA : A < 18446744073709551616) (ho : o < 18446744073709551616) (hv : v < 18446744073709551616) (hct : ct + 1 < 1000000000) (hgl : ∀ k, Six b cb wb rb rwb rhb k → k ≠ 0) :
    Calls Tryd.prog 21 #[.pointer (some ⟨b, 0, none⟩), .pointer (some ⟨rb, 0, none⟩), .agg #[.int .i64 d, .int .i64 at_, .int .i64 n, .int .i64 W, .int .u64 A, .int .u64 o, .int .u64 v]] w fun e w' => e = .returned (.bool true) ∧
      Synced w' b cb wb rb rwb rhb ws.length ct ∧ Fr (Six b cb wb rb rwb rhb) w w' := by
  rcases (show d % 9 = 0 ∨ d % 9 = 1 ∨ d % 9 = 2 ∨ d % 9 = 3 ∨ d % 9 = 4 ∨ d % 9 = 5 ∨ d % 9 = 6 ∨ d % 9 = 7 ∨ d % 9 = 8 by omega) with hq | hq | hq | hq | hq | hq | hq | hq | hq
  · exact do_map b cb wb rb rwb rhb cs ws ct d at_ n W A o v w hg h hd hq hat hn hgl
  · exact do_unmap b cb wb rb rwb rhb cs ws ct d at_ n W A o v w hg h hd hq hat hn hgl
  · exact do_width b cb wb rb rwb rhb cs ws ct d at_ n W A o v w hg h hd hq
  · exact do_load b cb wb rb rwb rhb cs ws ct d at_ n W A o v w hg h hd hq hA ho hv hct hgl
  · exact do_store b cb wb rb rwb rhb cs ws ct d at_ n W A o v w hg h hd hq hA ho hv hct hgl
  · exact do_swap b cb wb rb rwb rhb cs ws ct d at_ n W A o v w hg h hd hq hA ho hv hct hgl
  · exact do_add b cb wb rb rwb rhb cs ws ct d at_ n W A o v w hg h hd hq hA ho hv hct hgl
  · exact do_cas7 b cb wb rb rwb rhb cs ws ct d at_ n W A o v w hg h hd hq hA ho hv hct hgl
  · exact do_cas8 b cb wb rb rwb rhb cs ws ct d at_ n W A o v w hg h hd hq hA ho hv hct hgl

/-- The six blocks lie behind what was there. -/
theorem six_new {B b cb wb rb rwb rhb : Nat} (h : (B ≤ b ∧ B ≤ cb ∧ B ≤ wb) ∧ (B ≤ rb ∧ B ≤ rwb ∧ B ≤ rhb)) : ∀ i, Six b cb wb rb rwb rhb i → B ≤ i := by
  intro i hi
  rcases hi with (rfl | rfl | rfl) | (rfl | rfl | rfl) <;> omega

set_option maxRecDepth 100000 in
set_option maxHeartbeats 2000000 in
theorem samem_any (b cb wb rb rwb rhb : Nat) (cs ws : List Nat) (ct : Nat) (w : World) (hg : Laid w) (h : Sync w b cb wb rb rwb rhb cs ws ct) (hl : ws.length ≤ 1000) (hct : ct ≤ 1000000) (hgl : ∀ k, Six b cb wb rb rwb rhb k → k ≠ 0) :
    Calls Tryd.prog 22 #[.pointer (some ⟨b, 0, none⟩), .pointer (some ⟨rb, 0, none⟩)] w fun e w' => e = .returned (.bool true) ∧ Fr (Six b cb wb rb rwb rhb) w w' := by
  obtain ⟨n, hn⟩ : ∃ n, ws.length = n := ⟨_, rfl⟩
  have HN := Lib.hid hn
  rw [hn] at hl
  have H := Lib.hid h
  have HG := Lib.hid hg
  have r2 := h.r.hd.cell 2 _ rfl
  have r0 := h.r.hd.cell 0 _ rfl
  rw [hn] at r0
  have hfn : ∀ q, Fr (fun _ => False) w (w.drewN q) := fun q => (Fr.refl _ w).drewN q
  have ht1 : ∀ q, Calls Tryd.prog 11 #[.pointer (some ⟨b, 0, none⟩)] (w.drewN q) fun e w' => e = .returned (.int .i64 (cnt ws : Nat)) ∧ w' = w.drewN q := fun q => (there_any b cb wb cs ws (cnt ws) ct (w.drewN q) (h.m.keep (hfn q) id id id)).mono fun _ _ h => ⟨h.1, h.2.symm⟩
  have ht2 : ∀ q, Calls Tryd.prog 35 #[.pointer (some ⟨rb, 0, none⟩)] (w.drewN q) fun e w' => e = .returned (.int .i64 (cnt ws : Nat)) ∧ w' = w.drewN q := fun q => (rthere_any rb rwb rhb cs ws ct (w.drewN q) (h.r.keep (hfn q) id id id)).mono fun _ _ h => ⟨h.1, h.2.symm⟩
  have ht3 : ∀ q, Calls Tryd.prog 12 #[.pointer (some ⟨b, 0, none⟩)] (w.drewN q) fun e w' => e = .returned (.int .i64 ct) ∧ w' = w.drewN q := fun q => (count_any b cb wb cs ws (cnt ws) ct (w.drewN q) (h.m.keep (hfn q) id id id)).mono fun _ _ h => ⟨h.1, h.2.symm⟩
  have ht0 := cnt_le ws
  generalize cnt ws = y at ht1 ht2 ht3 ht0
  have t1 : ((y : Int) != (y : Int)) = false := by simp
  have t2 : ((ct : Int) != (ct : Int)) = false := by simp
  have HT1 := Lib.hid ht1
  have HT2 := Lib.hid ht2
  have HT3 := Lib.hid ht3
  clear h hg hn ht1 ht2 ht3
  go_enter Tryd.func22, Tryd.ntmps22
  go_wp2_with fail
  go_quiet ((first | (go_at_call 11; exact Calls.quiet_of_same (HT1.out _)) | (go_at_call 35; exact Calls.quiet_of_same (HT2.out _)) | (go_at_call 12; exact Calls.quiet_of_same (HT3.out _))))
  go_wp2_with fail
  have hf0 : Fr (fun _ => False) w (w.drewN nq) := (Fr.refl _ w).drewN nq
  have HS0 := Lib.hid (H.out.keep hf0 (fun _ _ => id))
  have HG0 := Lib.hid (HG.out.keep hf0 id)
  have HF0 := Lib.hid (hf0.mono (T := Six b cb wb rb rwb rhb) (fun _ _ h => h.elim))
  generalize w.drewN nq = w0 at HS0 HG0 HF0 ⊢
  clear hf0 r2 r0 H HG HT1 HT2 HT3 t1 t2 hfn
  go_loopw [5] (fun i wr => ∃ k : Nat, k ≤ n + 1 ∧ i = .int .i64 k ∧ (∃ cs ws c, Sync wr b cb wb rb rwb rhb cs ws c ∧ ws.length = n ∧ c ≤ ct + 2 * k) ∧ Laid wr ∧ Fr (Six b cb wb rb rwb rhb) w wr) (fun i _ => n + 1 - (intOf i).toNat)
  case atStart => exact ⟨0, by omega, rfl, ⟨cs, ws, ct, HS0.out, HN.out, by omega⟩, HG0.out, HF0.out⟩
  case round =>
    clear HS0 HG0 HF0 HN
    obtain ⟨k, hk, rfl, ⟨cs1, ws1, c1, hs, hn, hc⟩, hg, hf⟩ := hrel
    have r0 := hs.r.hd.cell 0 _ rfl
    rw [hn] at r0
    by_cases hlt : k ≤ n
    · have hd1 := do_width b cb wb rb rwb rhb cs1 ws1 c1 2 0 0 0 k 0 0 wr hg hs (by omega) (by omega)
      have HN := Lib.hid hn
      have HG := Lib.hid hg
      have HF := Lib.hid hf
      have HD := Lib.hid hd1
      clear hs hn hg hf hd1
      go_wp2_with fail
      refine HD.out.mono ?_
      rintro e w1 ⟨rfl, ⟨cs2, ws2, c2, hs2, hn2, hc2⟩, hf2⟩
      have hg2 := HG.out.keep hf2 (fun h => hgl _ h rfl)
      have hd2 := do_load b cb wb rb rwb rhb cs2 ws2 c2 3 0 0 0 k 0 0 w1 hg2 hs2 (by omega) (by omega) (by omega) (by omega) (by omega) (by omega) hgl
      have HN2 := Lib.hid (hn2.trans HN.out)
      have HG2 := Lib.hid hg2
      have HF2 := Lib.hid (HF.out.trans hf2)
      have HD2 := Lib.hid hd2
      clear hs2 hn2 hg2 hf2 hd2 HD HG HF r0
      go_wp2_with fail
      refine HD2.out.mono ?_
      rintro e w2 ⟨rfl, ⟨cs3, ws3, c3, hs3, hn3, hc3⟩, hf3⟩
      have HS3 := Lib.hid hs3
      have HN3 := Lib.hid (hn3.trans HN2.out)
      have HG3 := Lib.hid (HG2.out.keep hf3 (fun h => hgl _ h rfl))
      have HF3 := Lib.hid (HF2.out.trans hf3)
      clear hs3 hn3 hf3 HD2 HG2 HF2 HN2 HN
      go_wp2
      go_roundw
      case rel => exact ⟨k + 1, by omega, by go_num, ⟨cs3, ws3, c3, HS3.out, HN3.out, by omega⟩, HG3.out, HF3.out⟩
      case measure => simp [intOf]; omega
    · have HF := Lib.hid hf
      clear hs hn hg hf
      go_wp2
      go_ret
      exact ⟨rfl, HF.out⟩

end Go.Proofs.YtfppipbdmjnbcaaDoor
