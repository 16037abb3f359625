/- Whatever is taken and given back, also where somebody else has cells, is what the document says: the statement's walk. -/
import Derived.Test.YtlmjogfjhngcoaaDoorAllocL
import Derived.Test.YtlmjogfjhngcoaaDoorRecs
import Derived.Test.YtlmjogfjhngcoaaDoorWithin
namespace Go.Proofs.YtlmjogfjhngcoaaDoor
open Go.RowKit

theorem aop_at {w : World} {ao : Option Addr} {rs : List (List Int)} {k : Nat} (h : Recs [.i64, .i64, .i64, .i64] w ao rs) (hf : ∀ r ∈ rs, RecOk [.i64, .i64, .i64, .i64] r) (hk : k < rs.length) :
    ∃ (d n W p : Int) (g off : Nat), ao = some ⟨g, off, none⟩ ∧ g < w.heap.size ∧ (-9223372036854775808 ≤ d ∧ d ≤ 9223372036854775807) ∧ (-9223372036854775808 ≤ n ∧ n ≤ 9223372036854775807) ∧ (-9223372036854775808 ≤ W ∧ W ≤ 9223372036854775807) ∧ (-9223372036854775808 ≤ p ∧ p ≤ 9223372036854775807) ∧
      ∀ w', New w w' → w'.cell? ⟨g, off + k * 4, none⟩ = some (.int .i64 d) ∧ w'.cell? ⟨g, off + k * 4 + 1, none⟩ = some (.int .i64 n) ∧ w'.cell? ⟨g, off + k * 4 + 2, none⟩ = some (.int .i64 W) ∧ w'.cell? ⟨g, off + k * 4 + 3, none⟩ = some (.int .i64 p) := by
  have hr : rs[k]? = some rs[k] := by simp [hk]
  obtain ⟨hl, hz⟩ := hf rs[k] (List.getElem_mem hk)
  generalize rs[k] = r at hr hl hz
  obtain ⟨g, off, e, hg, hc⟩ := h k r hr
  match r, hl with
  | [d, n, W, p], _ =>
    have b0 := bounds_i64 (hz 0 _ .i64 rfl rfl)
    have b1 := bounds_i64 (hz 1 _ .i64 rfl rfl)
    have b2 := bounds_i64 (hz 2 _ .i64 rfl rfl)
    have b3 := bounds_i64 (hz 3 _ .i64 rfl rfl)
    exact ⟨d, n, W, p, g, off, e, hg, by omega, by omega, by omega, by omega, fun w' f => ⟨(f.cell hg id _).trans (hc 0 _ _ rfl rfl), (f.cell hg id _).trans (hc 1 _ _ rfl rfl), (f.cell hg id _).trans (hc 2 _ _ rfl rfl), (f.cell hg id _).trans (hc 3 _ _ rfl rfl)⟩⟩

set_option maxRecDepth 100000 in
set_option maxHeartbeats 8000000 in
theorem plays_walk (f0 t0 : Int) (rs : List (List Int)) (ao : Option Addr) (ca : Nat) (w : World) (hg : Laid w) (hfb : -9223372036854775808 ≤ f0 ∧ f0 ≤ 9223372036854775807) (htb : -9223372036854775808 ≤ t0 ∧ t0 ≤ 9223372036854775807) (hfit : ∀ r ∈ rs, RecOk [.i64, .i64, .i64, .i64] r) (hc : Recs [.i64, .i64, .i64, .i64] w ao rs) (hml : rs.length ≤ 9223372036854775807) :
    Calls Tryd.prog 8 #[.int .i64 f0, .int .i64 t0, .slice ao rs.length ca] w fun e w' => e = .returned (.bool true) ∧ New w w' := by
  obtain ⟨K, hK⟩ : ∃ K, rs.length = K := ⟨_, rfl⟩
  rw [hK] at hml ⊢
  obtain ⟨F, hF, hF2⟩ := within_nat f0 20 (by omega)
  obtain ⟨D, hD, hD2⟩ := within_nat t0 70 (by omega)
  have hw1 := fun w => within_any f0 20 w (by omega) (by omega) hfb.1 hfb.2
  have hw2 := fun w => within_any t0 70 w (by omega) (by omega) htb.1 htb.2
  rw [hF] at hw1
  rw [hD] at hw2
  have HW1 := Lib.hid hw1
  have HW2 := Lib.hid hw2
  have HG := Lib.hid hg
  have HC := Lib.hid hc
  have HFIT := Lib.hid hfit
  have HK := Lib.hid hK
  clear hg hc hfit hK hw1 hw2 hF hD
  go_enter Tryd.func8, Tryd.ntmps8
  go_wp2_with fail
  refine (HW1.out _).mono ?_
  rintro e w' ⟨rfl, rfl⟩
  go_wp2_with fail
  refine (HW2.out _).mono ?_
  rintro e w' ⟨rfl, rfl⟩
  go_wp2_with fail
  refine (new_any 80 w (by omega) (by omega)).mono ?_
  rintro e w1 ⟨mb, cb, wb, rfl, m1, m2, m3, hm, hn1⟩
  have hm' : MemRep w1 mb cb wb (List.replicate 80 0) (List.replicate 80 0) (cnt (List.replicate 80 0)) 0 := by rw [cnt_zero]; exact hm
  have HM := Lib.hid hm'
  have HN1 := Lib.hid hn1
  clear hm hm' hn1 HW1 HW2
  go_wp2_with fail
  refine (rnew_any 80 w1 (by omega) (by omega)).mono ?_
  rintro e w2 ⟨rmb, rwb, rhb, rfl, m4, m5, m6, hr, hn2⟩
  have HR := Lib.hid hr
  have HN2 := Lib.hid hn2
  clear hr hn2
  go_wp2_with fail
  refine (anew_ok mb F (F + D) w2 (by omega) (by omega) (by omega)).mono ?_
  rintro e w3 ⟨ab, rfl, m7, ha, hn3⟩
  have HA := Lib.hid ha
  have HN3 := Lib.hid hn3
  clear ha hn3
  go_wp2_with fail
  refine (ranew_any rmb rwb rhb F (F + D) _ _ 0 w3 (HR.out.keep HN3.out id id id) (by omega) (by omega) (by omega)).mono ?_
  rintro e w4 ⟨rab, rfl, m8, hra, hn4⟩
  have hb4 : BothG w w4 ab mb cb wb rab rmb rwb rhb F (F + D) [] (List.replicate 80 0) [] (List.replicate 80 0) := by
    have s1 := HN1.out.size
    have s2 := HN2.out.size
    have s3 := HN3.out.size
    have a1 := HM.out.hd.lt
    have a2 := HM.out.cells.lt
    have a3 := HM.out.widths.lt
    have a4 := HR.out.hd.lt
    have a5 := HR.out.widths.lt
    have a6 := HR.out.holds.lt
    have a7 := lt_of_block HA.out.hd
    refine ⟨⟨_, _, ⟨HA.out.new hn4, ⟨_, HM.out.keep ((HN2.out.trans HN3.out).trans hn4) id id id⟩, by omega, by omega, by omega, by simp [Value.ownBlock]⟩, hra, fun k hk => ?_, fun k hk => ?_⟩, ⟨by simp, by simp⟩, ((HN1.out.trans HN2.out).trans HN3.out).trans hn4⟩
    · rcases hk with rfl | rfl | rfl | rfl | e
      · exact ⟨by omega, by rintro (e | e | e | e | e) <;> first | omega | simp [Value.ownBlock] at e⟩
      · exact ⟨by omega, by rintro (e | e | e | e | e) <;> first | omega | simp [Value.ownBlock] at e⟩
      · exact ⟨by omega, by rintro (e | e | e | e | e) <;> first | omega | simp [Value.ownBlock] at e⟩
      · exact ⟨by omega, by rintro (e | e | e | e | e) <;> first | omega | simp [Value.ownBlock] at e⟩
      · simp [Value.ownBlock] at e
    · rcases hk with e | e | e | e | e
      · omega
      · omega
      · omega
      · omega
      · simp [Value.ownBlock] at e
  have HB4 := Lib.hid hb4
  clear hb4 hra hn4 HA HM HR HN1 HN2 HN3 m1 m2 m3 m4 m5 m6 m7 m8
  obtain ⟨T, hT⟩ : ∃ T : Int, (F : Int) + (D : Int) = T := ⟨_, rfl⟩
  rw [hT] at HB4
  go_wp2_with fail
  go_loopw [15] (fun i wr => ∃ (k : Nat) (l : List Bk) (ws : List Nat), k ≤ K ∧ k ≤ 60 ∧ i = .int .i64 k ∧ l.length ≤ k ∧ BothG w wr ab mb cb wb rab rmb rwb rhb F T l ws l ws) (fun i _ => K - (intOf i).toNat)
  case atStart => exact ⟨0, [], _, by omega, by omega, rfl, by simp, HB4.out⟩
  case round =>
    clear HB4
    obtain ⟨k, l, ws, hk, hk6, rfl, hl, hb⟩ := hrel
    have HB := Lib.hid hb
    clear hb
    by_cases hlt : k < K ∧ k < 60
    · obtain ⟨hlt1, hlt2⟩ := hlt
      obtain ⟨d, n, W, p, g, off, rfl, hg1, bd, bn, bW, bp, hcs⟩ := aop_at (k := k) HC.out HFIT.out (by rw [HK.out]; exact hlt1)
      obtain ⟨c0, c1, c2, c3⟩ := hcs wr HB.out.n
      obtain ⟨q, hq, hq2⟩ := within_nat p 80 (by omega)
      have hwp := fun w => within_any p 80 w (by omega) (by omega) bp.1 bp.2
      have hwd := fun w => within_any d 5 w (by omega) (by omega) bd.1 bd.2
      rw [hq] at hwp
      have hd5 : d % 5 = 0 ∨ d % 5 = 1 ∨ d % 5 = 2 ∨ d % 5 = 3 ∨ d % 5 = 4 := by omega
      have hgl : g < wr.heap.size := Nat.lt_of_lt_of_le hg1 HB.out.n.size
      have q1 : (0 : Int) ≤ (k : Int) := by omega
      have q2 : (k : Int) < (K : Int) := by omega
      have HWP := Lib.hid hwp
      generalize d % 5 = D5 at hwd hd5
      have HWD := Lib.hid hwd
      clear hwp hwd hq hcs
      go_upto_region 13 with fail
      obtain ⟨W1, hW1⟩ : ∃ W1, wr.alloc (.cells #[.int .i64 d, .int .i64 n, .int .i64 W, .int .i64 p] 62) = W1 := ⟨_, rfl⟩
      have hx1 : W1.heap[wr.heap.size]? = some (.cells #[.int .i64 d, .int .i64 n, .int .i64 W, .int .i64 p] 62 (0, 0)) := by rw [← hW1]; exact block_alloc_new _ _
      have hn1 : New wr W1 := by rw [← hW1]; exact (Fr.refl _ _).alloc _
      have haw : AwayG W1 ab mb cb wb rab rmb rwb rhb wr.heap.size := by rw [← hW1]; exact HB.out.away _
      have hb1 := HB.out.new hn1
      obtain ⟨xb, hxb⟩ : ∃ xb, wr.heap.size = xb := ⟨_, rfl⟩
      rw [hxb] at hx1 haw ⊢
      rw [hW1]
      have e0 : W1.cell? ⟨xb, 0, none⟩ = some (.int .i64 d) := cell_of_block hx1 0
      have e1 : W1.cell? ⟨xb, 1, none⟩ = some (.int .i64 n) := cell_of_block hx1 1
      have e2 : W1.cell? ⟨xb, 2, none⟩ = some (.int .i64 W) := cell_of_block hx1 2
      have e3 : W1.cell? ⟨xb, 3, none⟩ = some (.int .i64 p) := cell_of_block hx1 3
      have HX1 := Lib.hid hx1
      have HAW := Lib.hid haw
      have HB1 := Lib.hid hb1
      clear hW1 hx1 hn1 haw hb1 hxb c0 c1 c2 c3
      go_wp2_with fail
      refine (HWP.out _).mono ?_
      rintro e w' ⟨rfl, rfl⟩
      go_wp2_with fail
      refine (HWD.out _).mono ?_
      rintro e w' ⟨rfl, rfl⟩
      clear HWP HWD
      go_upto_block 2 with fail
      go_cut [15] (fun i wx => i = .int .i64 k ∧ ∃ (l' : List Bk) (ws' : List Nat), l'.length ≤ k + 1 ∧ BothG w wx ab mb cb wb rab rmb rwb rhb F T l' ws' l' ws')
      case first => as_aux_lemma =>
        rcases hd5 with rfl | rfl | rfl | rfl | rfl
        · go_wp2_with fail
          refine (bg_get n W HB1.out (by omega)).mono ?_
          rintro e w2 ⟨x, rfl, hx, hb2, hs2⟩
          have hx2 := ((hs2 xb HAW.out).1.trans HX1.out)
          have f1 : w2.cell? ⟨xb, 1, none⟩ = some (.int .i64 n) := cell_of_block hx2 1
          have f2 : w2.cell? ⟨xb, 2, none⟩ = some (.int .i64 W) := cell_of_block hx2 2
          have HX := Lib.hid hx
          have HB2 := Lib.hid hb2
          clear e0 e1 e2 e3 hx hb2 hs2 hx2
          go_wp2_with fail
          refine (bg_rget n W HB2.out (by omega)).mono ?_
          rintro e w3 ⟨y, rfl, hy, ⟨hb3, _⟩, hk3⟩
          have hx3 := hk3 _ _ HX.out
          have hfew := few_getE F T l ws n W
          have hlen := aL_len F T l ws n W
          generalize aP F T l ws n W = P
          generalize getE F T l ws n W = oe at hx3 hy hfew
          have tP : (P != P) = false := by simp
          have HS := Lib.hid (same_tells x y oe w3 (HG.out.keep hb3.n id) hx3 hy hfew)
          have HB3 := Lib.hid hb3
          clear f1 f2 hx3 hy hb3 hk3 HX hfew
          go_wp2_with (go_at_call 15; refine HS.out.mono ?_; rintro e w4 ⟨rfl, hn4⟩)
          go_meet
          exact ⟨rfl, _, _, by omega, HB3.out.new hn4⟩
        · go_wp2_with fail
          refine (bg_get n W HB1.out (by omega)).mono ?_
          rintro e w2 ⟨x, rfl, hx, hb2, hs2⟩
          have hx2 := ((hs2 xb HAW.out).1.trans HX1.out)
          have f1 : w2.cell? ⟨xb, 1, none⟩ = some (.int .i64 n) := cell_of_block hx2 1
          have f2 : w2.cell? ⟨xb, 2, none⟩ = some (.int .i64 W) := cell_of_block hx2 2
          have HX := Lib.hid hx
          have HB2 := Lib.hid hb2
          clear e0 e1 e2 e3 hx hb2 hs2 hx2
          go_wp2_with fail
          refine (bg_rget n W HB2.out (by omega)).mono ?_
          rintro e w3 ⟨y, rfl, hy, ⟨hb3, _⟩, hk3⟩
          have hx3 := hk3 _ _ HX.out
          have hfew := few_getE F T l ws n W
          have hlen := aL_len F T l ws n W
          generalize aP F T l ws n W = P
          generalize getE F T l ws n W = oe at hx3 hy hfew
          have tP : (P != P) = false := by simp
          have HS := Lib.hid (same_tells x y oe w3 (HG.out.keep hb3.n id) hx3 hy hfew)
          have HB3 := Lib.hid hb3
          clear f1 f2 hx3 hy hb3 hk3 HX hfew
          go_wp2_with (go_at_call 15; refine HS.out.mono ?_; rintro e w4 ⟨rfl, hn4⟩)
          go_meet
          exact ⟨rfl, _, _, by omega, HB3.out.new hn4⟩
        · go_wp2_with fail
          have s0 : W1.drew.cell? ⟨xb, 3, none⟩ = some (.int .i64 p) := e3
          refine heldStart (fun wz => wz.cell? ⟨xb, 3, none⟩ = some (.int .i64 p)) (by kernel_rfl) ?_
          have HB1' := Lib.hid (HB1.out.newS (Fr.refl (fun _ => False) W1).drew)
          have HAW' := Lib.hid (HB1'.out.2 xb HAW.out)
          clear e0 e1 e2 e3
          refine wpAnyH_take (i := 0) (v := ?_) rfl (by kernel_rfl) (by kernel_rfl) (by kernel_rfl) (fun _ _ _ h => h) (Or.inl ⟨by rfl, ?_⟩) s0 ?_
          rotate_left
          · intro w hSw; first | (obtain ⟨s1, s2, s3, s4, s5, s6, s7, s8⟩ := hSw; go_simp; rfl) | (obtain ⟨s1, s2, s3, s4, s5, s6, s7⟩ := hSw; go_simp; rfl) | (obtain ⟨s1, s2, s3⟩ := hSw; go_simp; rfl) | (obtain ⟨s1, s2⟩ := hSw; go_simp; rfl) | (have s1 := hSw; go_simp; rfl)
          go_simp
          refine wpAnyH_take (i := 1) (v := ?_) rfl (by kernel_rfl) (by kernel_rfl) (by kernel_rfl) (fun _ _ _ h => h) (Or.inl ⟨by rfl, ?_⟩) s0 ?_
          rotate_left
          · intro w hSw; first | (obtain ⟨s1, s2, s3, s4, s5, s6, s7, s8⟩ := hSw; go_simp; rfl) | (obtain ⟨s1, s2, s3, s4, s5, s6, s7⟩ := hSw; go_simp; rfl) | (obtain ⟨s1, s2, s3⟩ := hSw; go_simp; rfl) | (obtain ⟨s1, s2⟩ := hSw; go_simp; rfl) | (have s1 := hSw; go_simp; rfl)
          go_simp
          refine wpAnyH_take (i := 2) (v := ?_) rfl (by kernel_rfl) (by kernel_rfl) (by kernel_rfl) (fun _ _ _ h => h) (Or.inl ⟨by rfl, ?_⟩) s0 ?_
          rotate_left
          · intro w hSw; first | (obtain ⟨s1, s2, s3, s4, s5, s6, s7, s8⟩ := hSw; go_simp; rfl) | (obtain ⟨s1, s2, s3, s4, s5, s6, s7⟩ := hSw; go_simp; rfl) | (obtain ⟨s1, s2, s3⟩ := hSw; go_simp; rfl) | (obtain ⟨s1, s2⟩ := hSw; go_simp; rfl) | (have s1 := hSw; go_simp; rfl)
          go_simp
          refine wpAnyH_take (i := 4) (v := ?_) rfl (by kernel_rfl) (by kernel_rfl) (by kernel_rfl) (fun _ _ _ h => h) (Or.inl ⟨by rfl, ?_⟩) s0 ?_
          rotate_left
          · intro w hSw; first | (obtain ⟨s1, s2, s3, s4, s5, s6, s7, s8⟩ := hSw; go_simp; rfl) | (obtain ⟨s1, s2, s3, s4, s5, s6, s7⟩ := hSw; go_simp; rfl) | (obtain ⟨s1, s2, s3⟩ := hSw; go_simp; rfl) | (obtain ⟨s1, s2⟩ := hSw; go_simp; rfl) | (have s1 := hSw; go_simp; rfl)
          go_simp
          refine wpAnyH_take (i := 5) (v := ?_) rfl (by kernel_rfl) (by kernel_rfl) (by kernel_rfl) (fun _ _ _ h => h) (Or.inl ⟨by rfl, ?_⟩) s0 ?_
          rotate_left
          · intro w hSw; first | (obtain ⟨s1, s2, s3, s4, s5, s6, s7, s8⟩ := hSw; go_simp; rfl) | (obtain ⟨s1, s2, s3, s4, s5, s6, s7⟩ := hSw; go_simp; rfl) | (obtain ⟨s1, s2, s3⟩ := hSw; go_simp; rfl) | (obtain ⟨s1, s2⟩ := hSw; go_simp; rfl) | (have s1 := hSw; go_simp; rfl)
          go_simp
          refine wpAnyH_take (i := 6) (v := ?_) rfl (by kernel_rfl) (by kernel_rfl) (by kernel_rfl) (fun _ _ _ h => h) (Or.inl ⟨by rfl, ?_⟩) s0 ?_
          rotate_left
          · intro w hSw; first | (obtain ⟨s1, s2, s3, s4, s5, s6, s7, s8⟩ := hSw; go_simp; rfl) | (obtain ⟨s1, s2, s3, s4, s5, s6, s7⟩ := hSw; go_simp; rfl) | (obtain ⟨s1, s2, s3⟩ := hSw; go_simp; rfl) | (obtain ⟨s1, s2⟩ := hSw; go_simp; rfl) | (have s1 := hSw; go_simp; rfl)
          go_simp
          refine heldOne (i := 3) (by kernel_rfl) rfl (by rfl) (fun Kk hKk => ?_)
          go_simp
          refine (bg_put p HB1'.out.1).mono ?_
          rintro e w2 ⟨x, rfl, hx, hb2, hs2⟩
          have hs := hs2 xb HAW'.out.2
          have hx2 := (hs.1.trans HAW'.out.1).trans HX1.out
          have s2 : w2.cell? ⟨xb, 3, none⟩ = some (.int .i64 p) := cell_of_block hx2 3
          have HX := Lib.hid hx
          have HB2 := Lib.hid hb2
          have HAW2 := Lib.hid hs.2
          have HX2 := Lib.hid hx2
          refine hKk.out _ _ s2 ?_
          clear hKk Kk hx hb2 hs hx2 hs2 s0
          refine heldOne (i := 7) (by kernel_rfl) rfl (by rfl) (fun Kk hKk => ?_)
          go_simp
          refine (bg_rput p HB2.out).mono ?_
          rintro e w3 ⟨y, rfl, hy, ⟨hb3, hs3⟩, hk3⟩
          have hs := hs3 xb HAW2.out
          have hx3 := hs.1.trans HX2.out
          have s3 : w3.cell? ⟨xb, 3, none⟩ = some (.int .i64 p) := cell_of_block hx3 3
          have hx4 := hk3 _ _ HX.out
          have hfew := few_puE l ws p
          have hlen := puL_len l p
          generalize puE l ws p = oe at hx4 hy hfew
          have HS := Lib.hid (same_tells x y oe w3 (HG.out.keep hb3.n id) hx4 hy hfew)
          have HB3 := Lib.hid hb3
          have HX3 := Lib.hid hx3
          refine hKk.out _ _ s3 ?_
          clear hKk Kk hy hb3 hs hx3 hs3 hx4 hk3 HX hfew s2
          refine heldOne (i := 8) (by kernel_rfl) rfl (by rfl) (fun Kk hKk => ?_)
          go_simp
          refine HS.out.mono ?_
          rintro e w4 ⟨rfl, hn4⟩
          have hx4 := (hn4.block xb (lt_of_block HX3.out) id).trans HX3.out
          have s4 : w4.cell? ⟨xb, 3, none⟩ = some (.int .i64 p) := cell_of_block hx4 3
          have HB4 := Lib.hid (HB3.out.new hn4)
          refine hKk.out _ _ s4 ?_
          clear hKk Kk s3 hx4 hn4
          refine wpAnyH_take (i := 9) (v := ?_) rfl (by kernel_rfl) (by kernel_rfl) (by kernel_rfl) (fun _ _ _ h => h) (Or.inl ⟨by rfl, ?_⟩) s4 ?_
          rotate_left
          · intro w hSw; first | (obtain ⟨s1, s2, s3, s4, s5, s6, s7, s8⟩ := hSw; go_simp; rfl) | (obtain ⟨s1, s2, s3, s4, s5, s6, s7⟩ := hSw; go_simp; rfl) | (obtain ⟨s1, s2, s3⟩ := hSw; go_simp; rfl) | (obtain ⟨s1, s2⟩ := hSw; go_simp; rfl) | (have s1 := hSw; go_simp; rfl)
          go_simp
          refine wpAnyH_done (by kernel_rfl) ?_ _
          go_wp2_with fail
          go_meet
          exact ⟨rfl, _, _, by omega, HB4.out⟩
        · go_wp2_with fail
          refine (bg_map (q : Int) 1 64 (by omega) HB1.out).mono ?_
          rintro e w2 ⟨x, rfl, hx, hb2, _⟩
          have HX := Lib.hid hx
          have HB2 := Lib.hid hb2
          clear e0 e1 e2 e3 hx hb2
          go_wp2_with fail
          refine (bg_rmap (q : Int) 1 64 (by omega) (by omega) HB2.out).mono ?_
          rintro e w3 ⟨y, rfl, hy, ⟨hb3, _⟩, hk3⟩
          have hx3 := hk3 _ _ HX.out
          have hfew := few_one memL (mapErr ws (q : Int) 1 64)
          generalize oneL memL (mapErr ws (q : Int) 1 64) = oe at hx3 hy hfew
          have HS := Lib.hid (same_tells x y oe w3 (HG.out.keep hb3.n id) hx3 hy hfew)
          have HB3 := Lib.hid hb3
          clear hx3 hy hb3 hk3 HX hfew
          go_wp2_with (go_at_call 15; refine HS.out.mono ?_; rintro e w4 ⟨rfl, hn4⟩)
          go_meet
          exact ⟨rfl, _, _, by omega, HB3.out.new hn4⟩
        · go_wp2_with fail
          refine (bg_unmap (q : Int) 1 (by omega) HB1.out).mono ?_
          rintro e w2 ⟨x, rfl, hx, hb2, _⟩
          have HX := Lib.hid hx
          have HB2 := Lib.hid hb2
          clear e0 e1 e2 e3 hx hb2
          go_wp2_with fail
          refine (bg_runmap (q : Int) 1 (by omega) (by omega) HB2.out).mono ?_
          rintro e w3 ⟨y, rfl, hy, ⟨hb3, _⟩, hk3⟩
          have hx3 := hk3 _ _ HX.out
          have hfew := few_one memL (unmapErr ws (q : Int) 1)
          generalize oneL memL (unmapErr ws (q : Int) 1) = oe at hx3 hy hfew
          have HS := Lib.hid (same_tells x y oe w3 (HG.out.keep hb3.n id) hx3 hy hfew)
          have HB3 := Lib.hid hb3
          clear hx3 hy hb3 hk3 HX hfew
          go_wp2_with (go_at_call 15; refine HS.out.mono ?_; rintro e w4 ⟨rfl, hn4⟩)
          go_meet
          exact ⟨rfl, _, _, by omega, HB3.out.new hn4⟩
      case rest => as_aux_lemma =>
        obtain ⟨rfl, l', ws', hl', hb'⟩ := hcut
        have HB' := Lib.hid hb'
        clear hb' HB1 HAW HX1 HB e0 e1 e2 e3
        go_wp2_with fail
        refine (lsame_any HB'.out (by omega)).mono ?_
        rintro e w2 ⟨rfl, hn2⟩
        have HB2 := Lib.hid (HB'.out.new hn2)
        have ht1 := bg_there HB2.out
        have ht2 := bg_rthere HB2.out
        generalize cnt ws' = y at ht1 ht2
        have HT1 := Lib.hid ht1
        have HT2 := Lib.hid ht2
        have t1 : ((y : Int) != (y : Int)) = false := by simp
        clear hn2 HB' ht1 ht2
        go_wp2_with fail
        refine HT1.out.mono ?_
        rintro e w' ⟨rfl, rfl⟩
        go_wp2_with fail
        refine HT2.out.mono ?_
        rintro e w' ⟨rfl, rfl⟩
        go_wp2
        go_roundw
        case rel => exact ⟨k + 1, l', ws', by omega, by omega, by go_num, by omega, HB2.out⟩
        case measure => simp [intOf]; omega
    · rcases (show (k < K ∧ ¬ k < 60) ∨ ¬ k < K by omega) with ⟨h1, h2⟩ | h1
      all_goals
        go_wp2_with fail
        refine (awake_any _ (HG.out.keep HB.out.n id)).mono ?_
        rintro e w2 ⟨rfl, hn2⟩
        have HN := Lib.hid (HB.out.n.trans hn2)
        clear hn2
        go_wp2
        go_ret
        exact ⟨rfl, HN.out⟩

end Go.Proofs.YtlmjogfjhngcoaaDoor
