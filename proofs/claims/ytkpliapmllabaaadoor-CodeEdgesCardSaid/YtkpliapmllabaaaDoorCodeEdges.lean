/- As many instructions as there may be, and one more; as many cells: the statement's walk. -/
import Derived.Test.YtkpliapmllabaaaDoorCodeG
import Derived.Test.YtkpliapmllabaaaDoorCodeW
import Derived.Test.YtkpliapmllabaaaDoorWithin
import Derived.Test.YtkpliapmllabaaaDoorDoorP
import Derived.Deep.DeepCutAuto
import Derived.Deep.CutBlock
namespace Go.Proofs.YtkpliapmllabaaaDoor
open Go.RowKit

abbrev retI : List Int := [16, 0, 0, 0, ((0 : Nat) : Int), 0, 0]
theorem ret_fit : RecOk insKs retI := recOk_of (by decide)
theorem ret_may (n : Int) : mayL n false retI = true := by rfl
theorem edges_err (n : Nat) : checkErr (List.replicate n retI) false = if 2048 < n then some (0, 3) else none := by
  by_cases h : 2048 < n
  · unfold checkErr; rw [List.length_replicate, if_pos h, if_pos h]
  · rw [checkErr_same n false retI (by omega), if_neg h, if_pos (.inr (ret_may n))]
theorem edges_client (W : Int) (h1 : 0 ≤ W) (h2 : W ≤ 256) : clientL [retI] 0 W (256 - W) = none ∧ clientL [retI] 0 W (256 - W + 1) = some ([(codeL, 0)], 1) := by
  constructor
  · unfold clientL
    rw [if_neg (by simp; omega), show checkErr [retI] false = none from (by have := edges_err 1; simpa using this)]
    show placeL 0 1 = none
    unfold placeL; rw [if_neg (by omega)]
  · unfold clientL
    rw [if_pos (by right; right; right; left; omega)]
theorem within_n (v n : Int) (hn : 1 ≤ n) : ∃ k : Nat, v % n = (k : Int) ∧ (k : Int) < n := by
  have h1 := Int.emod_nonneg v (show n ≠ 0 by omega)
  have h2 := Int.emod_lt_of_pos v (show 0 < n by omega)
  exact ⟨(v % n).toNat, by omega, by omega⟩

set_option maxRecDepth 100000 in
set_option maxHeartbeats 8000000 in
theorem edges_walk (m d : Int) (w : World) (hg : Laid w) (hm : -9223372036854775808 ≤ m ∧ m ≤ 9223372036854775807) (hd : -9223372036854775808 ≤ d ∧ d ≤ 9223372036854775807) :
    Calls Tryd.prog 9 #[.int .i64 m, .int .i64 d] w fun e w' => e = .returned (.bool true) ∧ New w w' := by
  obtain ⟨i0, hi, hz0, hz1, hz2⟩ := info_parts insInfo
  obtain ⟨q, hq, hq5⟩ := within_n m 5 (by omega)
  have hwd := within_any m 5 w (by omega) (by omega) hm.1 hm.2
  rw [hq] at hwd
  obtain ⟨p, hp, hp5⟩ := within_n d 257 (by omega)
  have hwd2 := fun w => within_any d 257 w (by omega) (by omega) hd.1 hd.2
  rw [hp] at hwd2
  have HWD := Lib.hid hwd
  have HWD2 := Lib.hid hwd2
  have HG := Lib.hid hg
  clear hwd hwd2 hg hq hp
  go_enter Tryd.func9, Tryd.ntmps9
  have e1 : New w w := Fr.refl _ _
  go_wp2_with (first
    | (go_at_call 21; refine HWD.out.mono ?_; rintro e w1 ⟨rfl, rfl⟩)
    | (at_make; go_loud (refine wpList_make_full _ rfl (.tmp 14) (.tmp 14) 22 rfl w.heap.size 42 i0 _ 7 Tryd.underlying22 hi hz0 hz1 .i64 .i64 (2046 + (q : Int)) (2046 + (q : Int)) (2046 + q) rfl rfl (by omega) (by omega) (by rw [hz2]; omega) (by unfold maxLen; omega) (Nat.le_refl _) ?_; intro w1 hown hgrow; have HOW := Lib.hid hown; have HGW := Lib.hid hgrow; clear hown hgrow)))
  rw [show (2046 : Int) + (q : Int) = ((2046 + q : Nat) : Int) by omega]
  obtain ⟨n, hn⟩ : ∃ n, 2046 + q = n := ⟨_, rfl⟩
  rw [hn] at HOW ⊢
  have hn1 : 2046 ≤ n := by omega
  have hn2 : n ≤ 2050 := by omega
  have HN1 := Lib.hid (show New w w1 from (Fr.refl _ _).grown HGW.out (fun _ h => by cases h))
  have HS1 := Lib.hid (show Arr w1 w.heap.size ((someR retI n 0).flatMap insCells) from by
    have h := Arr.of_owns HOW.out
    rw [show (madeCells (insV 0 0 0 0 0 0 0).cells (n * 7)).toList = (List.replicate n ()).flatMap fun _ => insCells [0, 0, 0, 0, 0, 0, 0] from madeRows (insCells [0, 0, 0, 0, 0, 0, 0]) (by simp [insCells]) n, flatMap_replicate] at h
    exact h)
  obtain ⟨g, hgg⟩ : ∃ g, w.heap.size = g := ⟨_, rfl⟩
  have hgw : w.heap.size ≤ g := by omega
  rw [hgg] at HS1 ⊢
  clear hn hq5 HWD HOW HGW hi hz0 hz1 hz2 hgg
  go_loopw [7] (fun i wr => ∃ k : Nat, k ≤ n ∧ i = .int .i64 k ∧ New w wr ∧ Arr wr g ((someR retI n k).flatMap insCells)) (fun i _ => n - (intOf i).toNat)
  case atStart => exact ⟨0, by omega, rfl, HN1.out, HS1.out⟩
  case round =>
    clear HS1 HN1
    obtain ⟨k, hk, rfl, hnr, hsr⟩ := hrel
    have HNR := Lib.hid hnr
    have HSR := Lib.hid hsr
    have lgg := hsr.lt
    by_cases hlt : k < n
    · have hold : ∀ j, j < 7 → ∃ v, wr.cell? ⟨g, k * 7 + j, none⟩ = some v := fun j hj =>
        ⟨_, hsr.at (k * 7 + j) (by rw [len_flatMap insCells 7 insCells_len, someR_len _ (by omega)]; omega)⟩
      obtain ⟨u0, y0⟩ := hold 0 (by omega)
      obtain ⟨u1, y1⟩ := hold 1 (by omega)
      obtain ⟨u2, y2⟩ := hold 2 (by omega)
      obtain ⟨u3, y3⟩ := hold 3 (by omega)
      obtain ⟨u4, y4⟩ := hold 4 (by omega)
      obtain ⟨u5, y5⟩ := hold 5 (by omega)
      obtain ⟨u6, y6⟩ := hold 6 (by omega)
      have y00 : wr.cell? ⟨g, k * 7, none⟩ = some u0 := y0
      clear y0
      have HOLD := Lib.hid hold
      have fr := hsr.free
      clear hnr hsr hold
      go_wp2
      have hW : ∀ W', W' = laidAll wr g (k * 7) (insCells retI) → New w W' ∧ Arr W' g ((someR retI n (k + 1)).flatMap insCells) := by
        rintro W' rfl
        have hf := laidAll_fr g (insCells retI) wr (k * 7)
        refine ⟨HNR.out.then hf (fun i hi e => by omega), ?_⟩
        rw [← someR_set _ hlt]
        exact HSR.out.put insCells_len k _ (fun j v hj => laidAll_at _ _ _ _ _ _ hj (fun i hi => HOLD.out i (by rw [insCells_len] at hi; exact hi))) (fun j hj => laidAll_other _ _ _ _ _ (by rw [insCells_len]; exact hj)) (Nat.lt_of_lt_of_le HSR.out.lt hf.size) (fun j => (laidAll_frozen _ _ _ _ _).trans (HSR.out.free j))
      have HWW := Lib.hid (hW _ rfl)
      clear hW
      go_roundw
      case rel => exact ⟨k + 1, by omega, by go_num, HWW.out.1, HWW.out.2⟩
      case measure => simp [intOf]; omega
    · obtain rfl : n = k := by omega
      have hrec := recs_arr hsr
      unfold someR at hrec
      rw [Nat.sub_self, List.replicate_zero, List.append_nil] at hrec
      have hfit : ∀ r ∈ List.replicate n retI, RecOk insKs r := fun r hr => by rw [(List.mem_replicate.1 hr).2]; exact ret_fit
      have hch := check_any (List.replicate n retI) (some ⟨g, 0, none⟩) n false wr hfit hrec (by simp; omega)
      rw [List.length_replicate, edges_err] at hch
      have hrec1 : Recs insKs wr (some ⟨g, 0, none⟩) [retI] := fun i r hr => hrec i r (by
        match i, hr with
        | 0, hr => rw [List.getElem?_replicate, if_pos (by omega)]; simpa using hr
        | i + 1, hr => simp at hr)
      have hp2 := edges_client p (by omega) (by omega)
      have HC1 := Lib.hid (fun (w' : World) (f : New wr w') => client_any [retI] (some ⟨g, 0, none⟩) n 0 p (256 - p) w' (HG.out.keep (hnr.trans f) id) (fit_one ret_fit) (hrec1.keep f) (by simp) (by omega) (by omega) (by omega))
      have HC2 := Lib.hid (fun (w' : World) (f : New wr w') => client_any [retI] (some ⟨g, 0, none⟩) n 0 p (256 - p + 1) w' (HG.out.keep (hnr.trans f) id) (fit_one ret_fit) (hrec1.keep f) (by simp) (by omega) (by omega) (by omega))
      rw [hp2.1] at HC1
      rw [hp2.2] at HC2
      have HCH := Lib.hid hch
      clear hch hrec hrec1 hfit hp2 hnr hsr HSR
      go_wp2_with fail
      refine HCH.out.mono ?_
      rintro e w2 ⟨v, rfl, hv, hn2'⟩
      have HN2 := Lib.hid hn2'
      have HV := Lib.hid hv
      clear hn2' hv HCH
      go_upto_region 8 with fail
      go_cut [40] (fun s wx => s = .bool false ∧ New wr wx)
      case first => as_aux_lemma =>
        by_cases hb : 2048 < n
        · have hv := HV.out
          rw [if_pos hb] at hv
          have HS := Lib.hid hv
          obtain ⟨eb, rfl⟩ := Says.at hv
          clear hv HV
          go_wp2_with fail
          refine (no_says codeL 0 3 _).mono ?_
          rintro e w3 ⟨f, rfl, hf, hn3⟩
          have HSM := Lib.hid (same_says _ f codeL _ w3 (HG.out.keep (HNR.out.trans (HN2.out.trans hn3)) id) (HS.out.new hn3) hf)
          have HN3 := Lib.hid (HN2.out.trans hn3)
          clear hf hn3
          go_wp2_with fail
          refine HSM.out.mono ?_
          rintro e w4 ⟨rfl, hn4⟩
          have HN4 := Lib.hid (HN3.out.trans hn4)
          clear hn4
          go_wp2
          go_meet
          case rel => exact ⟨by first | rfl | (rw [decide_eq_false (by omega)]), HN4.out⟩
        · have hv := HV.out
          rw [if_neg hb] at hv
          obtain rfl : v = .nilIface := hv
          clear HV
          go_wp2_with fail
          refine (no_any codeL 0 3 _).mono ?_
          rintro e w3 ⟨f, rfl, hf, hn3⟩
          have HSM := Lib.hid (same_no f codeL 0 3 w3 hf)
          have HN3 := Lib.hid (HN2.out.trans hn3)
          clear hf hn3
          go_wp2_with fail
          refine HSM.out.mono ?_
          rintro e w4 ⟨rfl, hn4⟩
          have HN4 := Lib.hid (HN3.out.trans hn4)
          clear hn4
          go_wp2
          go_meet
          case rel => exact ⟨by first | rfl | (rw [decide_eq_false (by omega)]), HN4.out⟩
      obtain ⟨rfl, hcut⟩ := hcut
      have HNC := Lib.hid hcut
      clear HV HN2 hcut
      go_wp2_with (go_at_call 21; refine (HWD2.out _).mono ?_; rintro e w3 ⟨rfl, rfl⟩)
      obtain ⟨W0, hW0⟩ : ∃ W0, wc.alloc (.cells #[.slice (some ⟨g, 0, none⟩) 1 n, .int .i64 0, .int .i64 p, .int .i64 (256 - (p : Int))] 49) = W0 := ⟨_, rfl⟩
      have hx0 : Arr W0 wc.heap.size [.slice (some ⟨g, 0, none⟩) 1 n, .int .i64 0, .int .i64 p, .int .i64 (256 - (p : Int))] := by rw [← hW0]; exact Arr.new _ _ _
      have HN0 := Lib.hid (show New wr W0 by rw [← hW0]; exact HNC.out.alloc _)
      rw [hW0]
      have hxs := HNC.out.size
      obtain ⟨xb, hxb⟩ : ∃ xb, wc.heap.size = xb := ⟨_, rfl⟩
      rw [hxb] at hx0 hxs ⊢
      clear hW0 hxb
      refine (HC1.out _ HN0.out).mono ?_
      rintro e w4 ⟨v, rfl, hv, hn4⟩
      obtain rfl : v = .nilIface := hv
      have hx4 := hx0.keep hn4 id
      have x0 := hx4.cell 0 _ rfl
      have x1 := hx4.cell 1 _ rfl
      have x2 := hx4.cell 2 _ rfl
      have x3 := hx4.cell 3 _ rfl
      have xf := hx4.free 3
      have HN4 := Lib.hid (HN0.out.trans hn4)
      have HN5 := Lib.hid (fun (u : Value) => show New wr (w4.setCell ⟨xb, 3, none⟩ u) from HN4.out.setCell (p := ⟨xb, 3, none⟩) (fun h => absurd h (by show ¬ xb < _; omega)) u)
      clear hx0 hn4 hx4 HC1 HN0 HNC
      go_wp2_with fail
      refine (HC2.out _ (HN5.out _)).mono ?_
      rintro e w5 ⟨v, rfl, hv, hn5⟩
      have HV := Lib.hid hv
      have HN6 := Lib.hid (HNR.out.trans ((HN5.out _).trans hn5))
      clear hv hn5 HC2 x0 x1 x2 x3 xf
      go_wp2_with fail
      refine (no_says codeL 0 1 _).mono ?_
      rintro e w6 ⟨f, rfl, hf, hn6⟩
      have HSM := Lib.hid (same_tells v f _ w6 (HG.out.keep (HN6.out.trans hn6) id) (HV.out.new hn6) (tellsF_once hf) (few_once (some (0, 1))))
      have HN7 := Lib.hid (HN6.out.trans hn6)
      clear hf hn6 HV
      go_wp2_with fail
      refine HSM.out.mono ?_
      rintro e w7 ⟨rfl, hn7⟩
      have HN8 := Lib.hid (HN7.out.trans hn7)
      clear hn7 HSM
      go_wp2_with fail
      refine (awake_any w7 (HG.out.keep HN8.out id)).mono ?_
      rintro e w8 ⟨rfl, hn8⟩
      go_wp2
      go_ret
      exact ⟨rfl, HN8.out.trans hn8⟩

end Go.Proofs.YtkpliapmllabaaaDoor
