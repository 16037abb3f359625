/- A memory tells what the document's does: the statement's walk. -/
import Derived.Test.YtfppipbdmjnbcaaDoorMemO
namespace Go.Proofs.YtfppipbdmjnbcaaDoor
open Go.RowKit

abbrev opKs : List IntKind := [.i64, .i64, .i64, .i64, .u64, .u64, .u64]
/-- A call of the script, with its cells. -/
theorem op_at {w : World} {ao : Option Addr} {rs : List (List Int)} {k : Nat} (h : Recs opKs w ao rs) (hf : ∀ r ∈ rs, RecOk opKs r) (hk : k < rs.length) :
    ∃ (d a n W : Int) (A o v : Nat) (g off : Nat), ao = some ⟨g, off, none⟩ ∧ g < w.heap.size ∧ (-9223372036854775808 ≤ d ∧ d ≤ 9223372036854775807) ∧ (-9223372036854775808 ≤ a ∧ a ≤ 9223372036854775807) ∧ (-9223372036854775808 ≤ n ∧ n ≤ 9223372036854775807) ∧
      A < 18446744073709551616 ∧ o < 18446744073709551616 ∧ v < 18446744073709551616 ∧ w.cell? ⟨g, off + k * 7, none⟩ = some (.int .i64 d) ∧ w.cell? ⟨g, off + k * 7 + 1, none⟩ = some (.int .i64 a) ∧ w.cell? ⟨g, off + k * 7 + 2, none⟩ = some (.int .i64 n) ∧ w.cell? ⟨g, off + k * 7 + 3, none⟩ = some (.int .i64 W) ∧
      w.cell? ⟨g, off + k * 7 + 4, none⟩ = some (.int .u64 A) ∧ w.cell? ⟨g, off + k * 7 + 5, none⟩ = some (.int .u64 o) ∧ w.cell? ⟨g, off + k * 7 + 6, none⟩ = some (.int .u64 v) := by
  have hr : rs[k]? = some rs[k] := by simp [hk]
  obtain ⟨hl, hz⟩ := hf rs[k] (List.getElem_mem hk)
  generalize rs[k] = r at hr hl hz
  obtain ⟨g, off, e, hg, hc⟩ := h k r hr
  match r, hl with
  | [d, a, n, W, A, o, v], _ =>
    have b0 := bounds_i64 (hz 0 _ .i64 rfl rfl)
    have b1 := bounds_i64 (hz 1 _ .i64 rfl rfl)
    have b2 := bounds_i64 (hz 2 _ .i64 rfl rfl)
    have b4 := bounds_u64 (hz 4 _ .u64 rfl rfl)
    have b5 := bounds_u64 (hz 5 _ .u64 rfl rfl)
    have b6 := bounds_u64 (hz 6 _ .u64 rfl rfl)
    have c4 := hc 4 _ _ rfl rfl
    have c5 := hc 5 _ _ rfl rfl
    have c6 := hc 6 _ _ rfl rfl
    obtain ⟨A, rfl⟩ := Int.eq_ofNat_of_zero_le b4.1
    obtain ⟨o, rfl⟩ := Int.eq_ofNat_of_zero_le b5.1
    obtain ⟨v, rfl⟩ := Int.eq_ofNat_of_zero_le b6.1
    exact ⟨d, a, n, W, A, o, v, g, off, e, hg, b0, b1, b2, by omega, by omega, by omega, hc 0 _ _ rfl rfl, hc 1 _ _ rfl rfl, hc 2 _ _ rfl rfl, hc 3 _ _ rfl rfl, c4, c5, c6⟩

set_option maxRecDepth 100000 in
set_option maxHeartbeats 4000000 in
theorem plays_walk (cells : Int) (rs : List (List Int)) (ao : Option Addr) (cap : Nat) (w : World) (hg : Laid w) (hb : -9223372036854775808 ≤ cells ∧ cells ≤ 9223372036854775807) (hfit : ∀ r ∈ rs, RecOk opKs r) (hc : Recs opKs w ao rs) (hm : rs.length ≤ 9223372036854775807) :
    Calls Tryd.prog 5 #[.int .i64 cells, .slice ao rs.length cap] w fun e w' => e = .returned (.bool true) ∧ New w w' := by
  obtain ⟨L, hL⟩ : ∃ L, rs.length = L := ⟨_, rfl⟩
  rw [hL] at hm ⊢
  obtain ⟨m, hm1, hm2⟩ := within_nat cells 40 (by omega)
  have hw := fun w => within_any cells 40 w (by omega) (by omega) hb.1 hb.2
  rw [hm1] at hw
  have hge := lt_of_cell hg
  have HWI := Lib.hid hw
  have HC := Lib.hid hc
  have HFIT := Lib.hid hfit
  have HL := Lib.hid hL
  have HG := Lib.hid hg
  clear hc hfit hL hg hw hm1
  go_enter Tryd.func5, Tryd.ntmps5
  go_wp2_with (go_at_call 16; refine (HWI.out _).mono ?_; rintro e w' ⟨rfl, rfl⟩)
  rw [show (1 : Int) + (m : Int) = ((m + 1 : Nat) : Int) by omega]
  refine (new_any (m + 1) _ (by omega) (by omega)).mono ?_
  rintro e w1 ⟨b, cb, wb, rfl, hb1, hb2, hb3, hr, hn⟩
  have bl := hr.hd.lt
  have cl := hr.cells.lt
  have wl := hr.widths.lt
  have HR := Lib.hid hr
  have HN := Lib.hid hn
  clear hr hn
  go_wp2_with fail
  refine (rnew_any (m + 1) _ (by omega) (by omega)).mono ?_
  rintro e w2 ⟨rb, rwb, rhb, rfl, hb4, hb5, hb6, hr2, hn2⟩
  have hsync : Sync w2 b cb wb rb rwb rhb (List.replicate (m + 1) 0) (List.replicate (m + 1) 0) 0 := by
    have h0 : cnt (List.replicate (m + 1) 0) = 0 := by simp [cnt, List.countP_replicate]
    exact ⟨by rw [h0]; exact HR.out.keep hn2 id id id, hr2, by omega, by omega, by omega⟩
  have hs1 := HN.out.size
  have hsix := six_new (B := w.heap.size) (b := b) (cb := cb) (wb := wb) (rb := rb) (rwb := rwb) (rhb := rhb) ⟨⟨hb1, hb2, hb3⟩, ⟨by omega, by omega, by omega⟩⟩
  have hgl : ∀ k, Six b cb wb rb rwb rhb k → k ≠ 0 := fun k hk e => by have := hsix k hk; omega
  have HS := Lib.hid hsync
  have HN2 := Lib.hid (HN.out.trans hn2)
  have HG2 := Lib.hid (HG.out.keep (HN.out.trans hn2) id)
  have HSIX := Lib.hid hsix
  have HGL := Lib.hid hgl
  clear hsync hr2 hn2 HR hsix hgl HN
  go_wp2_with fail
  go_loopw [10] (fun i wr => ∃ k : Nat, k ≤ L ∧ k ≤ 60 ∧ i = .int .i64 k ∧ (∃ cs ws c, Sync wr b cb wb rb rwb rhb cs ws c ∧ ws.length = m + 1 ∧ c ≤ k) ∧ Laid wr ∧ New w wr) (fun i _ => L - (intOf i).toNat)
  case atStart => exact ⟨0, by omega, by omega, rfl, ⟨_, _, 0, HS.out, by simp, by omega⟩, HG2.out, HN2.out⟩
  case round =>
    clear HS HG2 HN2
    obtain ⟨k, hk, hk6, rfl, ⟨cs, ws, c, hs, hl, hcc⟩, hg, hn⟩ := hrel
    by_cases hlt : k < L ∧ k < 60
    · obtain ⟨hlt1, hlt2⟩ := hlt
      obtain ⟨d, a, n, W, A, o, v, g, off, rfl, hg1, b0, b1, b2, b4, b5, b6, c0, c1, c2, c3, c4, c5, c6⟩ := op_at (k := k) (HC.out.keep hn) HFIT.out (by rw [HL.out]; exact hlt1)
      have hd := do_any b cb wb rb rwb rhb cs ws c d a n W A o v wr hg hs b0 b1 b2 b4 b5 b6 (by omega) HGL.out
      have HD := Lib.hid hd
      have HLL := Lib.hid hl
      have HGR := Lib.hid hg
      have HNR := Lib.hid hn
      clear hd hs hg hn hl
      go_wp2_with fail
      refine HD.out.mono ?_
      rintro e w3 ⟨rfl, ⟨cs2, ws2, c2', hs2, hl2, hcc2⟩, hf2⟩
      have HS2 := Lib.hid hs2
      have HL2 := Lib.hid (hl2.trans HLL.out)
      have HG3 := Lib.hid (HGR.out.keep hf2 (fun h => HGL.out _ h rfl))
      have HN3 := Lib.hid (own_then HNR.out hf2 HSIX.out)
      clear hs2 hl2 hf2 HD HGR HNR c0 c1 c2 c3 c4 c5 c6
      go_wp2
      go_roundw
      case rel => exact ⟨k + 1, by omega, by omega, by go_num, ⟨cs2, ws2, c2', HS2.out, HL2.out, by omega⟩, HG3.out, HN3.out⟩
      case measure => simp [intOf]; omega
    · have hsm := samem_any b cb wb rb rwb rhb cs ws c wr hg hs (by omega) (by omega) HGL.out
      have HSM := Lib.hid hsm
      have HNR := Lib.hid hn
      clear hsm hs hg hn hl
      rcases (show (60 ≤ k ∧ k < L) ∨ L ≤ k by omega) with ⟨h60, h61⟩ | h60
      all_goals
        go_wp2_with fail
        refine HSM.out.mono ?_
        rintro e w3 ⟨rfl, hf3⟩
        have HN3 := Lib.hid (own_then HNR.out hf3 HSIX.out)
        clear hf3
        go_wp2_with fail
        refine (awake_any _).mono ?_
        rintro e w4 ⟨rfl, hn4⟩
        have HN4 := Lib.hid (HN3.out.trans hn4)
        clear hn4
        go_wp2
        go_ret
        exact ⟨rfl, HN4.out⟩

end Go.Proofs.YtfppipbdmjnbcaaDoor
