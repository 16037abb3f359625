/- Any code over any frame and cells does what the document says: the statement's walk. -/
import Derived.Test.YtngpcalgjaglmaaDoorVmY
import Derived.Test.YtngpcalgjaglmaaDoorVmJ
import Derived.Test.YtngpcalgjaglmaaDoorWithin
namespace Go.Proofs.YtngpcalgjaglmaaDoor
open Go.RowKit

/-- What holds between two steps. -/
structure RunR (w wr : World) (fb gb b cb wb rb rwb rhb B : Nat) (bo : Option Addr) (rs : List (List Int)) (k : Nat) : Prop where
  ex : ∃ v u F cs ct, Fms wr fb gb v u F ∧ Sync wr b cb wb rb rwb rhb cs bothWs ct ∧ ct ≤ 11 + 20 * k ∧ (∀ j, v.ownBlock = some j → B ≤ j) ∧ (∀ j, u.ownBlock = some j → B ≤ j)
  code : Recs insKs wr bo rs
  laid : Laid wr
  new : New w wr

set_option maxRecDepth 100000 in
set_option maxHeartbeats 8000000 in
theorem runs_walk (rs : List (List Int)) (ao : Option Addr) (cap : Nat) (pc : Int) (xs : List Nat) (xo : Option Addr) (xcap : Nat) (ys : List Int) (yo : Option Addr) (ycap : Nat) (zs : List Nat) (zo : Option Addr) (zcap : Nat) (steps : Int) (w : World) (hg : Laid w)
    (hc : Recs insKs w ao rs) (hfit : ∀ r ∈ rs, RecOk insKs r) (hm : rs.length ≤ 9223372036854775807) (hx : Nats w xo xs) (hxf : ∀ x ∈ xs, x < 18446744073709551616) (hxm : xs.length ≤ 9223372036854775807) (hy : IntsI w yo ys) (hym : ys.length ≤ 9223372036854775807)
    (hz : Nats w zo zs) (hzf : ∀ x ∈ zs, x < 18446744073709551616) (hzm : zs.length ≤ 9223372036854775807) (hst : -9223372036854775808 ≤ steps ∧ steps ≤ 9223372036854775807) :
    Calls Tryd.prog 3 #[.slice ao rs.length cap, .int .i64 pc, .slice xo xs.length xcap, .slice yo ys.length ycap, .slice zo zs.length zcap, .int .i64 steps] w fun e w' => e = .returned (.bool true) ∧ New w w' := by
  obtain ⟨L, hL⟩ : ∃ L, rs.length = L := ⟨_, rfl⟩
  have HC := Lib.hid hc
  have HFIT := Lib.hid hfit
  have HL := Lib.hid hL
  have HG := Lib.hid hg
  have hge := lt_of_cell hg
  obtain ⟨m, hm1, hm2⟩ := within_nat steps 60 (by omega)
  have hwi := fun w => within_any steps 60 w (by omega) (by omega) hst.1 hst.2
  rw [hm1] at hwi
  have HWI := Lib.hid hwi
  have HBO := Lib.hid (both_any zs zo zcap w hz hzf hzm)
  have HFR := Lib.hid (fun w' (f : New w w') => frame_any pc xs xo xcap ys yo ycap w' (hx.keep f) hxf hxm (hy.keep f) hym)
  have HCP := Lib.hid (fun w' (f : New w w') (h : rs.length ≤ 2048) => copy_any rs ao cap w' hfit (hc.keep f) (by omega))
  rw [hL] at hm HCP ⊢
  generalize xs.length = xl at HFR ⊢
  generalize ys.length = yl at HFR ⊢
  generalize zs.length = zl at HBO ⊢
  clear hc hfit hL hg hm1 hwi hx hxf hy hz hzf hst hxm hym hzm
  go_enter Tryd.func3, Tryd.ntmps3
  go_wp2_with fail
  refine HBO.out.mono ?_
  rintro e w1 ⟨b, cb, wb, rb, rwb, rhb, rfl, h6, hs, hn1⟩
  have HS1 := Lib.hid hs
  have HN1 := Lib.hid hn1
  have H6 := Lib.hid h6
  clear hs hn1 h6 HBO
  by_cases hbig : 2048 < L
  · have q1 : (2048 : Int) < (L : Int) := by omega
    go_wp2_with (go_at_call 6; refine (awake_any _).mono ?_; rintro e w2 ⟨rfl, hn2⟩)
    go_ret
    exact ⟨rfl, HN1.out.trans hn2⟩
  · have q1 : ¬ (2048 : Int) < (L : Int) := by omega
    go_wp2_with fail
    refine (HFR.out w1 HN1.out).mono ?_
    rintro e w2 ⟨fb, gb, v, u, rfl, hfb, hgb, hfm, hv, hu, hn2⟩
    have HFM := Lib.hid hfm
    have HV := Lib.hid hv
    have HU := Lib.hid hu
    have HN2 := Lib.hid hn2
    have hfl := hfm.f.fr.lt
    have hgl := hfm.g.fr.lt
    clear hfm hv hu hn2 HFR
    go_wp2_with fail
    refine (HCP.out w2 (HN1.out.trans HN2.out) (by omega)).mono ?_
    rintro e w3 ⟨bo, cb2, rfl, hrc, hbo, hn3⟩
    have hsix : ∀ k, Six b cb wb rb rwb rhb k → k < w1.heap.size := fun k hk => by
      have h := HS1.out
      rcases hk with (rfl | rfl | rfl) | (rfl | rfl | rfl)
      · exact h.m.hd.lt
      · exact h.m.cells.lt
      · exact h.m.widths.lt
      · exact h.r.hd.lt
      · exact h.r.widths.lt
      · exact h.r.holds.lt
    have hr0 : RunR w w3 fb gb b cb wb rb rwb rhb w1.heap.size bo rs 0 :=
      ⟨⟨v, u, _, _, _, HFM.out.new hn3, (HS1.out.keep (HN2.out.trans hn3) (fun _ _ => id)), by omega, HV.out, HU.out⟩, hrc, HG.out.keep ((HN1.out.trans HN2.out).trans hn3) id, (HN1.out.trans HN2.out).trans hn3⟩
    have hsz1 := HN1.out.size
    have hsz2 := HN2.out.size
    have HR0 := Lib.hid hr0
    have HB := Lib.hid hbo
    have HSIX := Lib.hid hsix
    clear hrc hbo hn3 hr0 hsix HFM HV HU HS1 HCP
    go_wp2_with (go_at_call 9; refine (HWI.out _).mono ?_; rintro e w' ⟨rfl, rfl⟩)
    obtain ⟨n, hn, hn6⟩ : ∃ n : Nat, (1 : Int) + (m : Int) = (n : Int) ∧ n ≤ 60 := ⟨m + 1, by omega, by omega⟩
    rw [hn]
    clear hn hm2
    have HAL := Lib.hid (fun (w' : World) (f : New w w') (h : Recs insKs w' bo rs) => codeEq_any rs bo ao cb2 cap w' HFIT.out h (HC.out.keep f) (by rw [HL.out]; omega))
    rw [HL.out] at HAL
    go_wp2_with fail
    go_loopw [19] (fun i wr => ∃ k : Nat, k ≤ n ∧ i = .int .i64 k ∧ RunR w wr fb gb b cb wb rb rwb rhb w1.heap.size bo rs k) (fun i _ => n - (intOf i).toNat)
    case atStart => exact ⟨0, by omega, rfl, HR0.out⟩
    case round =>
      clear HR0
      obtain ⟨k, hk, rfl, hr⟩ := hrel
      have HR := Lib.hid hr
      clear hr
      by_cases hlt : k < n
      · obtain ⟨v, u, F, cs, ct, hF, hS, hct, hv, hu⟩ := HR.out.ex
        have hb := HSIX.out
        have b0 := hb b (.inl (.inl rfl))
        have b1 := hb cb (.inl (.inr (.inl rfl)))
        have b2 := hb wb (.inl (.inr (.inr rfl)))
        have b3 := hb rb (.inr (.inl rfl))
        have b4 := hb rwb (.inr (.inr (.inl rfl)))
        have b5 := hb rhb (.inr (.inr (.inr rfl)))
        have hst := step_any fb b cb wb v F cs bothWs (cnt bothWs) ct rs bo cb2 wr hF.f HR.out.code HFIT.out (by rw [HL.out]; omega) hS.m (by omega) ⟨by omega, by omega, by omega⟩ ⟨fun e => (by have := hv _ e; omega), fun e => (by have := hv _ e; omega), fun e => (by have := hv _ e; omega)⟩
        have hrs := fun (w' : World) (hg' : FmAt w' gb 0 u F) (hc' : Recs insKs w' ao rs) (hm' : RefRep w' rb rwb rhb cs bothWs ct) => rstep_any gb rb rwb rhb u F cs bothWs ct rs ao cap w' hg' hc' HFIT.out (by rw [HL.out]; omega) hm' (by omega) ⟨by omega, by omega, by omega⟩ ⟨fun e => (by have := hu _ e; omega), fun e => (by have := hu _ e; omega), fun e => (by have := hu _ e; omega)⟩
        obtain ⟨⟨how, oe, F2, cs2, ct2⟩, hR⟩ : ∃ R, vstep rs F cs bothWs ct = R := ⟨_, rfl⟩
        have hfew := vstep_few rs F cs bothWs ct
        have hcts := vstep_ct rs F cs bothWs ct
        rw [hR] at hst hrs hfew hcts
        simp only at hfew hcts
        rw [HL.out] at hst hrs
        have HST := Lib.hid hst
        have HRS := Lib.hid hrs
        have HFE := Lib.hid hfew
        have HF := Lib.hid hF
        have HS := Lib.hid hS
        have HV := Lib.hid hv
        have HU := Lib.hid hu
        have hwl := HR.out.new.size
        have q2 : (k : Int) < (n : Int) := by omega
        clear hst hrs hfew hF hS hv hu hR hb
        go_wp2_with fail
        refine HST.out.mono ?_
        rintro e w4 h1
        obtain ⟨er, e1, hte⟩ := h1.res
        subst e1
        have h4 : New w w4 := HR.out.new.then h1.fr (fun i hi e => by
          have := H6.out b (.inl (.inl rfl)); have := H6.out cb (.inl (.inr (.inl rfl)))
          rcases e with e | e | e <;> omega)
        have hg4 : FmAt w4 gb 0 u F := HF.out.g.keep h1.fr (fun e => by rcases e with e | e | e; exact HF.out.ne e.symm; omega; omega) (fun j hj e => by have := HU.out j hj; rcases e with e | e | e; exact HF.out.uf (e ▸ hj); omega; omega)
        have hr4 : RefRep w4 rb rwb rhb cs bothWs ct := HS.out.r.keep h1.fr (fun e => by rcases e with e | e | e; omega; exact HS.out.ab.1 e.symm; exact HS.out.ac.1 e.symm) (fun e => by rcases e with e | e | e; omega; exact HS.out.ab.2.1 e.symm; exact HS.out.ac.2.1 e.symm) (fun e => by rcases e with e | e | e; omega; exact HS.out.ab.2.2 e.symm; exact HS.out.ac.2.2 e.symm)
        have HC4 := Lib.hid (HC.out.keep h4)
        have H4 := Lib.hid h4
        have HG4 := Lib.hid hg4
        have HR4 := Lib.hid hr4
        have HTE := Lib.hid hte
        have H1 := Lib.hid h1
        clear h1 hte h4 hg4 hr4
        go_wp2_with fail
        refine (HRS.out w4 HG4.out HC4.out HR4.out).mono ?_
        rintro e w5 h2
        obtain ⟨fl, e1, htf⟩ := h2.res
        subst e1
        obtain ⟨v', u', hF5, hS5, hv5, hu5, hfr5⟩ := pair_step HF.out HS.out H1.out h2 HSIX.out ⟨hfb, hgb⟩ HV.out HU.out (by have := HR.out.new.size; have := HF.out.f.fr.lt; omega)
        have h5 : New w w5 := H4.out.then h2.fr (fun i hi e => by
          have := H6.out rb (.inr (.inl rfl)); have := H6.out rhb (.inr (.inr (.inr rfl)))
          rcases e with e | e | e <;> omega)
        have HTE5 := Lib.hid (HTE.out.keepAtV h2.fr (rstep_noAt HG4.out HR4.out (by decide)))
        have HTF5 := Lib.hid htf
        have HF5 := Lib.hid hF5
        have HS5 := Lib.hid hS5
        have HV5 := Lib.hid hv5
        have HU5 := Lib.hid hu5
        have H5 := Lib.hid h5
        have HB5 := Lib.hid (HR.out.code.keepS hfr5 (fun a ha e => by
          have := HB.out a ha
          rcases e with e | e | e
          · omega
          · omega
          · have := HSIX.out _ e; omega))
        have HG5 := Lib.hid (HG.out.keep h5 id)
        have tq : (how != how) = false := by simp
        clear h2 htf hF5 hS5 hv5 hu5 hfr5 h5 HC4 H4 HG4 HR4 HTE H1 HST HRS HF HS HV HU
        go_wp2_with fail
        refine (same_tells er fl oe w5 HG5.out HTE5.out HTF5.out HFE.out).mono ?_
        rintro e w6 ⟨rfl, hn6⟩
        have HF6 := Lib.hid (HF5.out.new hn6)
        have HS6 := Lib.hid (HS5.out.keep hn6 (fun _ _ => id))
        have HB6 := Lib.hid (HB5.out.keep hn6)
        have H6n := Lib.hid (H5.out.trans hn6)
        clear hn6 HTE5 HTF5 HF5 HS5 HB5 H5 HG5
        go_wp2_with fail
        refine (alike_any fb gb v' u' F2 b cb wb rb rwb rhb cs2 bothWs ct2 w6 HF6.out HS6.out (fun k hk => bothWs_at hk) (by decide) (by omega)).mono ?_
        rintro e w7 ⟨rfl, hS7, hf7⟩
        have hn7 : New w w7 := H6n.out.then hf7 (fun i hi e => by have := H6.out _ e; omega)
        have hr7 : RunR w w7 fb gb b cb wb rb rwb rhb w1.heap.size bo rs (k + 1) :=
          ⟨⟨v', u', F2, cs2, ct2 + 11, HF6.out.keep hf7 (fun e => by have := HSIX.out _ e; omega) (fun e => by have := HSIX.out _ e; omega) (fun j hj e => by have := HSIX.out _ e; have := HV5.out j hj; omega) (fun j hj e => by have := HSIX.out _ e; have := HU5.out j hj; omega), hS7, by omega, HV5.out, HU5.out⟩,
            HB6.out.keepS hf7 (fun a ha e => by have := HB.out a ha; have := HSIX.out _ e; omega), HG.out.keep hn7 id, hn7⟩
        have HR7 := Lib.hid hr7
        clear hS7 hf7 hn7 hr7 HF6 HS6 HB6 H6n
        by_cases h0 : how = 0
        · have t0 : (how != 0) = false := by simp [h0]
          clear h0
          go_wp2_with fail
          go_roundw
          case rel => exact ⟨k + 1, by omega, by go_num, HR7.out⟩
          case measure => simp [intOf]; omega
        · have t0 : (how != 0) = true := by simp [h0]
          clear h0
          go_wp2_with fail
          refine (HAL.out w7 HR7.out.new HR7.out.code).mono ?_
          rintro e w8 ⟨rfl, hn8⟩
          have HN8 := Lib.hid (HR7.out.new.trans hn8)
          clear hn8
          go_wp2_with (go_at_call 6; refine (awake_any _).mono ?_; rintro e w9 ⟨rfl, hn9⟩)
          go_ret
          exact ⟨rfl, HN8.out.trans hn9⟩
      · have q2 : ¬ (k : Int) < (n : Int) := by omega
        go_wp2_with fail
        refine (HAL.out wr HR.out.new HR.out.code).mono ?_
        rintro e w8 ⟨rfl, hn8⟩
        have HN8 := Lib.hid (HR.out.new.trans hn8)
        clear hn8
        go_wp2_with (go_at_call 6; refine (awake_any _).mono ?_; rintro e w9 ⟨rfl, hn9⟩)
        go_ret
        exact ⟨rfl, HN8.out.trans hn9⟩

end Go.Proofs.YtngpcalgjaglmaaDoor
