/- Whoever comes, is taken, moved and dropped: answers and queues are what the document says: the statement's walk. -/
import Derived.Test.YteeckkkbmlkkiaaDoorWaitT
import Derived.Test.YteeckkkbmlkkiaaDoorRecs
import Derived.Test.YteeckkkbmlkkiaaDoorWaitE
namespace Go.Proofs.YteeckkkbmlkkiaaDoor
open Go.RowKit

theorem op_at {w : World} {ao : Option Addr} {rs : List (List Int)} {k : Nat} (h : Recs [.i64, .u64, .u64, .u64, .u64] w ao rs) (hf : ∀ r ∈ rs, RecOk [.i64, .u64, .u64, .u64, .u64] r) (hk : k < rs.length) :
    ∃ (d : Int) (u a t m g off : Nat), ao = some ⟨g, off, none⟩ ∧ g < w.heap.size ∧ u < 18446744073709551616 ∧ a < 18446744073709551616 ∧ t < 18446744073709551616 ∧ m < 18446744073709551616 ∧ -9223372036854775808 ≤ d ∧ d ≤ 9223372036854775807 ∧
      w.cell? ⟨g, off + k * 5, none⟩ = some (.int .i64 d) ∧ w.cell? ⟨g, off + k * 5 + 1, none⟩ = some (.int .u64 u) ∧ w.cell? ⟨g, off + k * 5 + 2, none⟩ = some (.int .u64 a) ∧ w.cell? ⟨g, off + k * 5 + 3, none⟩ = some (.int .u64 t) ∧ w.cell? ⟨g, off + k * 5 + 4, none⟩ = some (.int .u64 m) := by
  have hr : rs[k]? = some rs[k] := by simp [hk]
  obtain ⟨hl, hz⟩ := hf rs[k] (List.getElem_mem hk)
  generalize rs[k] = r at hr hl hz
  obtain ⟨g, off, e, hg, hc⟩ := h k r hr
  match r, hl with
  | [d, U, A, T, M], _ =>
    have b0 := bounds_i64 (hz 0 _ .i64 rfl rfl)
    have b1 := bounds_u64 (hz 1 _ .u64 rfl rfl)
    have b2 := bounds_u64 (hz 2 _ .u64 rfl rfl)
    have b3 := bounds_u64 (hz 3 _ .u64 rfl rfl)
    have b4 := bounds_u64 (hz 4 _ .u64 rfl rfl)
    obtain ⟨U, rfl⟩ := Int.eq_ofNat_of_zero_le b1.1
    obtain ⟨A, rfl⟩ := Int.eq_ofNat_of_zero_le b2.1
    obtain ⟨T, rfl⟩ := Int.eq_ofNat_of_zero_le b3.1
    obtain ⟨M, rfl⟩ := Int.eq_ofNat_of_zero_le b4.1
    exact ⟨d, U, A, T, M, g, off, e, hg, by omega, by omega, by omega, by omega, by omega, by omega, hc 0 _ _ rfl rfl, hc 1 _ _ rfl rfl, hc 2 _ _ rfl rfl, hc 3 _ _ rfl rfl, hc 4 _ _ rfl rfl⟩

set_option maxRecDepth 100000 in
set_option maxHeartbeats 1000000 in
theorem rnewq_any (n : Nat) (w : World) (h1 : 1 ≤ n) (h2 : n ≤ 64) :
    Calls Tryd.prog 18 #[.int .i64 n] w fun e w' => ∃ rb, e = .returned (.tuple #[.pointer (some ⟨rb, 0, none⟩), .pointer none]) ∧ w.heap.size ≤ rb ∧ DocQ w' rb (.slice none 0 0) [] n ∧ New w w' := by
  go_enter Tryd.func18, Tryd.ntmps18
  go_wp2
  go_ret2
  exact ⟨_, rfl, Nat.le_refl _, ⟨block_alloc_new _ _, World.ownsRow_nil _ _ _ _, by simp; omega⟩, (Fr.refl _ _).alloc _⟩

set_option maxRecDepth 100000 in
set_option maxHeartbeats 8000000 in
theorem plays_walk (b : Int) (rs : List (List Int)) (ao : Option Addr) (ca : Nat) (w : World) (hg : Laid w) (hb : -9223372036854775808 ≤ b ∧ b ≤ 9223372036854775807) (hfit : ∀ r ∈ rs, RecOk [.i64, .u64, .u64, .u64, .u64] r) (hc : Recs [.i64, .u64, .u64, .u64, .u64] w ao rs) (hml : rs.length ≤ 9223372036854775807) :
    Calls Tryd.prog 5 #[.int .i64 b, .slice ao rs.length ca] w fun e w' => e = .returned (.bool true) ∧ New w w' := by
  obtain ⟨K, hK⟩ : ∃ K, rs.length = K := ⟨_, rfl⟩
  rw [hK] at hml ⊢
  obtain ⟨q, hq, hq5⟩ := within_nat b 9 (by omega)
  have hwd := within_any b 9 w (by omega) (by omega) (by omega) (by omega)
  rw [hq] at hwd
  have HG := Lib.hid hg
  have HC := Lib.hid hc
  have HFIT := Lib.hid hfit
  have HK := Lib.hid hK
  have HWD := Lib.hid hwd
  clear hg hc hfit hK hwd hq
  go_enter Tryd.func5, Tryd.ntmps5
  go_wp2_with fail
  refine HWD.out.mono ?_
  rintro e w1 ⟨rfl, rfl⟩
  clear HWD
  go_wp2_with fail
  try rw [show (1 : Int) + (q : Int) = ((q + 1 : Nat) : Int) by omega]
  obtain ⟨n, hn⟩ : ∃ n, q + 1 = n := ⟨_, rfl⟩
  rw [hn]
  have hn1 : 1 ≤ n := by omega
  have hn2 : n ≤ 64 := by omega
  clear hn hq5
  refine (new_any n _ hn1 hn2).mono ?_
  rintro e w1 ⟨qb, lb, mb, rfl, hfr, hr, hnw1⟩
  have HR := Lib.hid hr
  have HN := Lib.hid hnw1
  have HF := Lib.hid hfr
  clear hr hnw1 hfr
  go_wp2_with fail
  refine (rnewq_any n _ hn1 hn2).mono ?_
  rintro e w2 ⟨rb, rfl, hrb, hd, hnw2⟩
  have HP := Lib.hid (show PlayQ w qb lb mb rb n 0 w2 from ⟨_, [], ⟨⟨HR.out.new hnw2, hd, (fun k hk hd => by
    have := HR.out.lt hk
    rcases hd with rfl | hd
    · omega
    · cases hd)⟩, (fun k hk => by
    rcases hk with hk | rfl | hk
    · exact HF.out k hk
    · have := HN.out.size; omega
    · cases hk), HN.out.trans hnw2⟩, Nat.le_refl _⟩)
  clear HR HF HN hd hnw2 hrb
  go_wp2_with fail
  go_loopw [10] (fun i wr => ∃ k : Nat, k ≤ K ∧ k ≤ 100 ∧ i = .int .i64 k ∧ PlayQ w qb lb mb rb n k wr) (fun i _ => K - (intOf i).toNat)
  case atStart => exact ⟨0, by omega, by omega, rfl, HP.out⟩
  case round =>
    clear HP
    obtain ⟨k, hk, hk3, rfl, hpl⟩ := hrel
    have HP := Lib.hid hpl
    have hnw : New w wr := by obtain ⟨_, _, hs, _⟩ := hpl; exact hs.n
    have HNW := Lib.hid hnw
    clear hpl hnw
    by_cases hend : k < K ∧ k < 100
    · obtain ⟨hlt, hlt3⟩ := hend
      obtain ⟨d, u, a, t, m, g, off, rfl, hg1, hu, ha, ht, hm, hd1, hd2, c0, c1, c2, c3, c4⟩ := op_at (HC.out.keep HNW.out) HFIT.out (by rw [HK.out]; exact hlt)
      go_wp2_with fail
      refine (do10_any w HG.out HP.out (by omega) ⟨hd1, hd2⟩ hu ha ht hm).mono ?_
      rintro e w3 ⟨rfl, hp3⟩
      have HP3 := Lib.hid hp3
      obtain ⟨v, L, hs, hl⟩ := hp3
      have HB := Lib.hid hs.b
      clear hs hl c0 c1 c2 c3 c4
      go_wp2_with fail
      refine (same10_any HB.out).mono ?_
      rintro e w4 ⟨rfl, hn4⟩
      have HP4 := Lib.hid (show PlayQ w qb lb mb rb n (k + 1) w4 by
        obtain ⟨v, L, hs, hl⟩ := HP3.out
        exact ⟨v, L, hs.new hn4, hl⟩)
      clear hn4
      go_wp2_with fail
      go_roundw
      case rel => exact ⟨k + 1, by omega, by omega, by go_num, HP4.out⟩
      case measure => simp [intOf]; omega
    · by_cases hkl : k < K
      all_goals
        go_wp2_with fail
        refine (awake_any wr).mono ?_
        rintro e w3 ⟨rfl, hn3⟩
        have HN3 := Lib.hid (HNW.out.trans hn3)
        clear hn3
        go_wp2
        go_ret
        exact ⟨rfl, HN3.out⟩

end Go.Proofs.YteeckkkbmlkkiaaDoor
