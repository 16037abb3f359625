/- Two memories have nothing in common: the statement's walk. -/
import Derived.Test.YtfppipbdmjnbcaaDoorMemPlays
namespace Go.Proofs.YtfppipbdmjnbcaaDoor
open Go.RowKit

theorem load_keep (b cb wb : Nat) (cs ws : List Nat) (th ct p W c : Nat) (w : World) (h : MemRep w b cb wb cs ws th ct) (hw : ws[p]? = some W) (hW : W = 32 ∨ W = 64) (hc : cs[p]? = some c) (hct : ct + 1 < 1000000000) :
    Calls Tryd.prog 19 #[.pointer (some ⟨b, 0, none⟩), .int .u64 p] w fun e w' => e = .returned (.tuple #[.int .u64 c, .nilIface]) ∧
      MemRep w' b cb wb cs ws th (ct + 1) ∧ Fr (fun k => k = b ∨ k = cb) w w' :=
  (load_any b cb wb cs ws th ct p W c w h hw hW hc hct).mono fun e w' ⟨h1, h2, h3⟩ => ⟨h1, by rw [show laidBy 0 W c 0 0 = c from rfl, set_self hc] at h2; exact h2, h3⟩
theorem get_rep {n x p : Nat} (h : p < n) : (List.replicate n x)[p]? = some x := by simp [h]

set_option maxRecDepth 100000 in
set_option maxHeartbeats 4000000 in
theorem two_walk (rs : List (List Int)) (ao : Option Addr) (cap : Nat) (w : World) (hg : Laid w) (hfit : ∀ r ∈ rs, RecOk opKs r) (hc : Recs opKs w ao rs) (hm : rs.length ≤ 9223372036854775807) :
    Calls Tryd.prog 6 #[.slice ao rs.length cap] w fun e w' => e = .returned (.bool true) ∧ New w w' := by
  obtain ⟨L, hL⟩ : ∃ L, rs.length = L := ⟨_, rfl⟩
  rw [hL] at hm ⊢
  have hge := lt_of_cell hg
  have HC := Lib.hid hc
  have HFIT := Lib.hid hfit
  have HL := Lib.hid hL
  have HG := Lib.hid hg
  clear hc hfit hL hg
  go_enter Tryd.func6, Tryd.ntmps6
  go_wp2_with fail
  refine (full_any 8 _ (by omega) (by omega)).mono ?_
  rintro e w1 ⟨b, cb, wb, rfl, ⟨hb1, hb2, hb3⟩, hr, hn⟩
  have bl := hr.hd.lt
  have cl := hr.cells.lt
  have wl := hr.widths.lt
  have HR := Lib.hid hr
  have HN := Lib.hid hn
  clear hr hn
  go_wp2_with fail
  refine (full_any 8 _ (by omega) (by omega)).mono ?_
  rintro e w2 ⟨b2, cb2, wb2, rfl, ⟨hb4, hb5, hb6⟩, hr, hn⟩
  have bl2 := hr.hd.lt
  have cl2 := hr.cells.lt
  have wl2 := hr.widths.lt
  have hs1 := HN.out.size
  have HR2 := Lib.hid hr
  have HR1 := Lib.hid (HR.out.keep hn id id id)
  have HN2 := Lib.hid (HN.out.trans hn)
  clear hr hn HR HN
  go_wp2_with fail
  refine (rnew_any 8 _ (by omega) (by omega)).mono ?_
  rintro e w3 ⟨rb, rwb, rhb, rfl, hb7, hb8, hb9, hr, hn⟩
  have hs2 := HN2.out.size
  have hs3 := hn.size
  have rl := hr.hd.lt
  have rl2 := hr.widths.lt
  have rl3 := hr.holds.lt
  have hmap := rmap_ok rb rwb rhb _ _ 0 0 8 64 w3 hr (by omega) (by simp) (fun i h1 h2 => by rw [List.getD_eq_getElem?_getD, get_rep (by omega)]; rfl) (.inr rfl)
  rw [fill_all, fill_all] at hmap
  have HM := Lib.hid hmap
  have HR3 := Lib.hid (HR2.out.keep hn id id id)
  have HR4 := Lib.hid (HR1.out.keep hn id id id)
  have HN3 := Lib.hid (HN2.out.trans hn)
  clear hr hn hmap HR1 HR2 HN2
  go_wp2_with fail
  refine HM.out.mono ?_
  rintro e w4 ⟨rfl, hr, hf⟩
  have hsync : Sync w4 b cb wb rb rwb rhb (List.replicate 8 0) (List.replicate 8 64) 0 := by
    have h0 : cnt (List.replicate 8 64) = 8 := by simp [cnt, List.countP_replicate]
    exact ⟨by rw [h0]; exact HR4.out.keep hf (by omega) (by omega) (by omega), hr, by omega, by omega, by omega⟩
  have hother := HR3.out.keep hf (by omega) (by omega) (by omega)
  have hsix := six_new (B := w.heap.size) (b := b) (cb := cb) (wb := wb) (rb := rb) (rwb := rwb) (rhb := rhb) ⟨⟨hb1, hb2, hb3⟩, ⟨by omega, by omega, by omega⟩⟩
  have hgl : ∀ k, Six b cb wb rb rwb rhb k → k ≠ 0 := fun k hk e => by have := hsix k hk; omega
  have hnot : ¬ Six b cb wb rb rwb rhb b2 ∧ ¬ Six b cb wb rb rwb rhb cb2 ∧ ¬ Six b cb wb rb rwb rhb wb2 := by unfold Six; omega
  have hn4 := own_then HN3.out hf (fun i hi => by omega)
  have HS := Lib.hid hsync
  have HO := Lib.hid hother
  have HNOT := Lib.hid hnot
  have HN4 := Lib.hid hn4
  have HG4 := Lib.hid (HG.out.keep hn4 id)
  have HSIX := Lib.hid hsix
  have HGL := Lib.hid hgl
  clear hsync hother hnot hr hf hsix hgl hn4 HR3 HR4 HN3 HM
  go_wp2_with fail
  go_loopw [7] (fun i wr => ∃ k : Nat, k ≤ L ∧ k ≤ 40 ∧ i = .int .i64 k ∧ (∃ cs ws c, Sync wr b cb wb rb rwb rhb cs ws c ∧ c ≤ k) ∧ MemRep wr b2 cb2 wb2 (List.replicate 8 0) (List.replicate 8 64) 8 0 ∧ Laid wr ∧ New w wr) (fun i _ => L - (intOf i).toNat)
  case atStart => exact ⟨0, by omega, by omega, rfl, ⟨_, _, 0, HS.out, by omega⟩, HO.out, HG4.out, HN4.out⟩
  case round =>
    clear HS HO HG4 HN4
    obtain ⟨k, hk, hk6, rfl, ⟨cs, ws, c, hs, hcc⟩, ho, hg, hn⟩ := hrel
    by_cases hlt : k < L ∧ k < 40
    · obtain ⟨hlt1, hlt2⟩ := hlt
      obtain ⟨d, a, n, W, A, o, v, g, off, rfl, hg1, b0, b1, b2', b4, b5, b6, c0, c1, c2, c3, c4, c5, c6⟩ := op_at (k := k) (HC.out.keep hn) HFIT.out (by rw [HL.out]; exact hlt1)
      have hd := do_any b cb wb rb rwb rhb cs ws c d a n W A o v wr hg hs b0 b1 b2' b4 b5 b6 (by omega) HGL.out
      have HD := Lib.hid hd
      have HOR := Lib.hid ho
      have HGR := Lib.hid hg
      have HNR := Lib.hid hn
      clear hd hs hg hn ho
      go_wp2_with fail
      refine HD.out.mono ?_
      rintro e w3 ⟨rfl, ⟨cs2, ws2, c2', hs2, hl2, hcc2⟩, hf2⟩
      have HS2 := Lib.hid hs2
      have HO2 := Lib.hid (HOR.out.keep hf2 HNOT.out.1 HNOT.out.2.1 HNOT.out.2.2)
      have HG3 := Lib.hid (HGR.out.keep hf2 (fun h => HGL.out _ h rfl))
      have HN3 := Lib.hid (own_then HNR.out hf2 HSIX.out)
      clear hs2 hf2 HD HGR HNR hl2 HOR c0 c1 c2 c3 c4 c5 c6
      go_wp2
      go_roundw
      case rel => exact ⟨k + 1, by omega, by omega, by go_num, ⟨cs2, ws2, c2', HS2.out, by omega⟩, HO2.out, HG3.out, HN3.out⟩
      case measure => simp [intOf]; omega
    · have HOR := Lib.hid ho
      have HNR := Lib.hid hn
      clear hs hg hn ho
      rcases (show (40 ≤ k ∧ k < L) ∨ L ≤ k by omega) with ⟨h60, h61⟩ | h60
      all_goals
        go_wp2_with fail
        refine (count_any b2 cb2 wb2 _ _ 8 0 _ HOR.out).mono ?_
        rintro e w' ⟨rfl, rfl⟩
        go_wp2_with fail
        refine (there_any b2 cb2 wb2 _ _ 8 0 _ HOR.out).mono ?_
        rintro e w' ⟨rfl, rfl⟩
        go_wp2_with fail
        go_loopw [8] (fun i wq => ∃ j : Nat, j ≤ 8 ∧ i = .int .u64 j ∧ MemRep wq b2 cb2 wb2 (List.replicate 8 0) (List.replicate 8 64) 8 j ∧ New w wq) (fun i _ => 8 - (intOf i).toNat)
        case atStart => exact ⟨0, by omega, rfl, HOR.out, HNR.out⟩
        case round =>
          clear HOR HNR
          obtain ⟨j, hj, rfl, hr, hn⟩ := hrel
          by_cases hlt2 : j < 8
          · have hld := load_keep b2 cb2 wb2 _ _ 8 j j 64 0 _ hr (get_rep hlt2) (.inr rfl) (get_rep hlt2) (by omega)
            have HLD := Lib.hid hld
            have HNJ := Lib.hid hn
            clear hld hr hn
            go_wp2_with fail
            refine HLD.out.mono ?_
            rintro e w5 ⟨rfl, hr5, hf5⟩
            have HR5 := Lib.hid hr5
            have HN5 := Lib.hid (own_then HNJ.out hf5 (fun i hi => by omega))
            clear hr5 hf5 HLD HNJ
            go_wp2
            go_roundw
            case rel => exact ⟨j + 1, by omega, by go_num, HR5.out, HN5.out⟩
            case measure => simp [intOf]; omega
          · have HNJ := Lib.hid hn
            clear hr hn
            go_wp2_with fail
            refine (awake_any _).mono ?_
            rintro e w4 ⟨rfl, hn4⟩
            have HN4 := Lib.hid (HNJ.out.trans hn4)
            clear hn4
            go_wp2
            go_ret
            exact ⟨rfl, HN4.out⟩

end Go.Proofs.YtfppipbdmjnbcaaDoor
