/- Whoever is born, joined, let loose, ends, leaves and is reaped: answers and all threads are what the document says: the statement's walk. -/
import Derived.Test.YtpfkfajgbaakoaaDoorTabJ
import Derived.Test.YtpfkfajgbaakoaaDoorRecs
namespace Go.Proofs.YtpfkfajgbaakoaaDoor
open Go.RowKit

theorem op_at {w : World} {ao : Option Addr} {rs : List (List Int)} {k : Nat} (h : Recs [.i64, .i64, .u64, .u64, .i64] w ao rs) (hf : ∀ r ∈ rs, RecOk [.i64, .i64, .u64, .u64, .i64] r) (hk : k < rs.length) :
    ∃ (d who : Int) (u v : Nat) (S : Int) (g off : Nat), ao = some ⟨g, off, none⟩ ∧ g < w.heap.size ∧ u < 18446744073709551616 ∧ v < 18446744073709551616 ∧ -9223372036854775808 ≤ d ∧ d ≤ 9223372036854775807 ∧ -9223372036854775808 ≤ who ∧ who ≤ 9223372036854775807 ∧
      ∀ w', New w w' → w'.cell? ⟨g, off + k * 5, none⟩ = some (.int .i64 d) ∧ w'.cell? ⟨g, off + k * 5 + 1, none⟩ = some (.int .i64 who) ∧ w'.cell? ⟨g, off + k * 5 + 2, none⟩ = some (.int .u64 u) ∧ w'.cell? ⟨g, off + k * 5 + 3, none⟩ = some (.int .u64 v) ∧ w'.cell? ⟨g, off + k * 5 + 4, none⟩ = some (.int .i64 S) := by
  have hr : rs[k]? = some rs[k] := by simp [hk]
  obtain ⟨hl, hz⟩ := hf rs[k] (List.getElem_mem hk)
  generalize rs[k] = r at hr hl hz
  obtain ⟨g, off, e, hg, hc⟩ := h k r hr
  match r, hl with
  | [d, O, U, V, S], _ =>
    have b0 := bounds_i64 (hz 0 _ .i64 rfl rfl)
    have b1 := bounds_i64 (hz 1 _ .i64 rfl rfl)
    have b2 := bounds_u64 (hz 2 _ .u64 rfl rfl)
    have b3 := bounds_u64 (hz 3 _ .u64 rfl rfl)
    obtain ⟨U, rfl⟩ := Int.eq_ofNat_of_zero_le b2.1
    obtain ⟨V, rfl⟩ := Int.eq_ofNat_of_zero_le b3.1
    exact ⟨d, O, U, V, S, g, off, e, hg, by omega, by omega, by omega, by omega, by omega, by omega, fun w' f => ⟨(f.cell hg id _).trans (hc 0 _ _ rfl rfl), (f.cell hg id _).trans (hc 1 _ _ rfl rfl), (f.cell hg id _).trans (hc 2 _ _ rfl rfl), (f.cell hg id _).trans (hc 3 _ _ rfl rfl), (f.cell hg id _).trans (hc 4 _ _ rfl rfl)⟩⟩
theorem placed_none (n : Nat) : Placed (List.replicate n noneR) := by
  intro p r hr
  obtain rfl := List.eq_of_mem_replicate (List.mem_of_getElem? hr)
  exact ⟨fun h => (by cases h), fun _ => rfl⟩
theorem times_none (n : Nat) : Times (List.replicate n noneR) 0 := fun r hr => by
  obtain rfl := List.eq_of_mem_replicate hr; exact Nat.le_refl _
/-- What Look tells, in numbers. -/
theorem look_form (l : List TR) (h : Nat) : ∃ (a : Int) (s : Int) (ho v j : Int) (x y : Bool), Value.agg (lookT l h).toArray = thV a s ho v j x y := by
  unfold lookT
  cases rowAt l h with
  | none => exact ⟨_, _, _, _, _, _, _, rfl⟩
  | some r => exact ⟨_, _, _, _, _, _, _, rfl⟩

set_option maxRecDepth 100000 in
set_option maxHeartbeats 8000000 in
theorem plays_walk (m : Int) (rs : List (List Int)) (ao : Option Addr) (ca : Nat) (w : World) (hg : Laid w) (hb : -9223372036854775808 ≤ m ∧ m ≤ 9223372036854775807) (hfit : ∀ r ∈ rs, RecOk [.i64, .i64, .u64, .u64, .i64] r) (hc : Recs [.i64, .i64, .u64, .u64, .i64] w ao rs) (hml : rs.length ≤ 9223372036854775807) :
    Calls Tryd.prog 8 #[.int .i64 m, .slice ao rs.length ca] w fun e w' => e = .returned (.bool true) ∧ New w w' := by
  obtain ⟨K, hK⟩ : ∃ K, rs.length = K := ⟨_, rfl⟩
  rw [hK] at hml ⊢
  obtain ⟨q, hq, hq5⟩ := within_nat m 6 (by omega)
  have hwd := within_any m 6 w (by omega) (by omega) (by omega) (by omega)
  rw [hq] at hwd
  have HG := Lib.hid hg
  have HC := Lib.hid hc
  have HFIT := Lib.hid hfit
  have HK := Lib.hid hK
  have HWD := Lib.hid hwd
  clear hg hc hfit hK hwd hq
  go_enter Tryd.func8, Tryd.ntmps8
  go_wp2_with fail
  refine HWD.out.mono ?_
  rintro e w1 ⟨rfl, rfl⟩
  clear HWD
  go_wp2_with fail
  try rw [show (1 : Int) + (q : Int) = ((q + 1 : Nat) : Int) by omega]
  obtain ⟨n, hn⟩ : ∃ n, q + 1 = n := ⟨_, rfl⟩
  rw [hn]
  have hn1 : 1 ≤ n := by omega
  have hn2 : n ≤ 64 := by omega
  clear hn hq5
  refine (new_any n _ hn1 hn2).mono ?_
  rintro e w1 ⟨b, rb, rfl, hb1, hrb1, hr, hnw1⟩
  have HR := Lib.hid hr
  have HN := Lib.hid hnw1
  clear hr hnw1
  go_wp2_with fail
  refine (rnew_any n _ hn1 hn2).mono ?_
  rintro e w2 ⟨b2, lb, rfl, hb2, hlb2, hd, hnw2⟩
  have HP := Lib.hid (show ∃ l, StT w w2 b rb b2 lb l 0 from ⟨_, HR.out.new hnw2, hd, placed_none n, times_none n, (by have := HR.out.hd.lt; have := HR.out.rows.lt; omega), (by have := HN.out.size; omega), HN.out.trans hnw2⟩)
  clear HR HN hd hnw2 hb1 hrb1 hb2 hlb2
  go_wp2_with fail
  go_loopw [10] (fun i wr => ∃ k : Nat, k ≤ K ∧ k ≤ 100 ∧ i = .int .i64 k ∧ ∃ l, StT w wr b rb b2 lb l k) (fun i _ => K - (intOf i).toNat)
  case atStart => exact ⟨0, by omega, by omega, rfl, HP.out⟩
  case round =>
    clear HP
    obtain ⟨k, hk, hk3, rfl, l, hpl⟩ := hrel
    have HP := Lib.hid hpl
    clear hpl
    by_cases hend : k < K ∧ k < 100
    · obtain ⟨hlt, hlt3⟩ := hend
      obtain ⟨d, who, u, v, S, g, off, rfl, hg1, hu, hv, hd1, hd2, ho1, ho2, hcell⟩ := op_at (HC.out.keep HP.out.n) HFIT.out (by rw [HK.out]; exact hlt)
      obtain ⟨c0, c1, c2, c3, c4⟩ := hcell wr (Fr.refl _ _)
      have HCELL := Lib.hid hcell
      clear hcell
      go_wp2_with fail
      refine (id_any b2 lb l d who S u v wr HP.out.d HP.out.pl hu ho1 ho2).mono ?_
      rintro e w1 ⟨h, rfl, hh, hn1⟩
      have H1 := Lib.hid (HP.out.new hn1)
      obtain ⟨d0, d1, d2, d3, d4⟩ := HCELL.out w1 hn1
      clear hn1 c0 c1 c2 c3 c4 HCELL HP
      go_wp2_with fail
      refine (do_any w b rb b2 lb l k d who S u v w1 HG.out H1.out (by omega) hu hv ho1 ho2 hd1 hd2).mono ?_
      rintro e w2 ⟨rfl, l2, h2⟩
      have H2 := Lib.hid h2
      have hl2 := h2.d.len
      have hlv := live_le l2
      clear h2 d0 d1 d2 d3 d4 H1
      go_wp2_with fail
      refine (pall_any b rb l2 w2 H2.out.p).mono ?_
      rintro e w3 ⟨v1, rfl, hw1, hn3⟩
      have HW1 := Lib.hid hw1
      have H3 := Lib.hid (H2.out.new hn3)
      clear hw1 hn3 H2
      go_wp2_with fail
      refine (dall_any b2 lb l2 w3 H3.out.d H3.out.pl).mono ?_
      rintro e w4 ⟨v2, rfl, hw2, hn4⟩
      have HSO := Lib.hid (sameT_any l2 v1 v2 _ _ w4 (own_kept HW1.out hn4 (fun _ _ => id)) hw2 hl2)
      have H4 := Lib.hid (H3.out.new hn4)
      clear hw2 hn4 H3 HW1
      go_wp2_with fail
      refine HSO.out.mono ?_
      rintro e w5 ⟨rfl, hn5⟩
      have H5 := Lib.hid (H4.out.new hn5)
      clear hn5 H4 HSO
      go_wp2_with fail
      refine (pstatus_any b rb l2 h w5 H5.out.p hh).mono ?_
      rintro e wz ⟨rfl, rfl⟩
      obtain ⟨z, hz⟩ : ∃ z, statI l2 h = z := ⟨_, rfl⟩
      have HZ := Lib.hid hz
      rw [hz]
      have t1 : (z != z) = false := by simp
      clear hz
      go_wp2_with fail
      refine (dstatus_any b2 lb l2 h w5 H5.out.d H5.out.pl hh).mono ?_
      rintro e wz ⟨rfl, rfl⟩
      rw [HZ.out]
      go_wp2_with fail
      refine (plook_any b rb l2 h w5 H5.out.p hh).mono ?_
      rintro e w6 ⟨rfl, hn6⟩
      obtain ⟨a, s, ho, va, jo, x, y, hlk⟩ := look_form l2 h
      rw [hlk]
      obtain ⟨is, his⟩ : ∃ is, lookB l2 h = is := ⟨_, rfl⟩
      rw [his]
      have HLK := Lib.hid (And.intro hlk his)
      have H6 := Lib.hid (H5.out.new hn6)
      clear hn6 H5 hlk his HZ
      have t2 : (is != is) = false := by simp
      have hne := fun w => th_neq a s ho va jo x y w
      have hgd : Tryd.prog.eqGuardType Tryd.prog.depth 48 = false := by kernel_rfl
      have hgd2 := fun w x y xs ys => run_eqGuard_agg (P := Tryd.prog) w .neq 48 x y xs ys hgd
      go_wp2_with fail
      obtain ⟨W7, hW7⟩ : ∃ W7, w6.alloc (.cells #[.int .u64 a, .int .i64 s, .int .u64 ho, .int .u64 va, .int .u64 jo, .bool x, .bool y] 48) = W7 := ⟨_, rfl⟩
      have hx7 : Arr W7 w6.heap.size [.int .u64 a, .int .i64 s, .int .u64 ho, .int .u64 va, .int .u64 jo, .bool x, .bool y] := by rw [← hW7]; exact Arr.new _ _ _
      have H7 := Lib.hid (show StT w W7 b rb b2 lb l2 (k + 1) by rw [← hW7]; exact H6.out.new ((Fr.refl _ _).alloc _))
      rw [hW7]
      obtain ⟨xb, hxb⟩ : ∃ xb, w6.heap.size = xb := ⟨_, rfl⟩
      rw [hxb] at hx7 ⊢
      clear hW7 hxb H6
      refine (dlook_any b2 lb l2 h W7 H7.out.d H7.out.pl hh).mono ?_
      rintro e w8 ⟨rfl, hn8⟩
      rw [HLK.out.1, HLK.out.2]
      have H8 := Lib.hid (H7.out.new hn8)
      have hx8 := hx7.keep hn8 id
      have x0 := hx8.cell 0 _ rfl
      have x1 := hx8.cell 1 _ rfl
      have x2 := hx8.cell 2 _ rfl
      have x3 := hx8.cell 3 _ rfl
      have x4 := hx8.cell 4 _ rfl
      have x5 := hx8.cell 5 _ rfl
      have x6 := hx8.cell 6 _ rfl
      have xl := hx8.lt
      clear hn8 hx7 hx8 H7 HLK
      go_wp2
      go_roundw
      case rel => exact ⟨k + 1, by omega, by omega, by go_num, l2, H8.out.new ((Fr.refl _ _).alloc _)⟩
      case measure => simp [intOf]; omega
    · by_cases hkl : k < K
      all_goals
        go_wp2_with fail
        refine (awake_any wr (HG.out.keep HP.out.n id)).mono ?_
        rintro e w3 ⟨rfl, hn3⟩
        have HN3 := Lib.hid (HP.out.n.trans hn3)
        clear hn3
        go_wp2
        go_ret
        exact ⟨rfl, HN3.out⟩

end Go.Proofs.YtpfkfajgbaakoaaDoor
