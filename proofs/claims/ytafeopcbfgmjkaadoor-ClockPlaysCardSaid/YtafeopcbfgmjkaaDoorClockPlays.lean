/- Whoever is armed and disarmed, a clock tells what the document's does: the statement's walk. -/
import Derived.Test.YtafeopcbfgmjkaaDoorClockM
import Derived.Test.YtafeopcbfgmjkaaDoorWordsS
import Derived.Test.YtafeopcbfgmjkaaDoorWithin
import Derived.Test.YtafeopcbfgmjkaaDoorRecs
import Derived.Test.YtafeopcbfgmjkaaDoorReg
import Derived.Deep.DeepCutAuto
import Derived.Deep.CutBlock
namespace Go.Proofs.YtafeopcbfgmjkaaDoor
open Go.RowKit

theorem op_at {w : World} {ao : Option Addr} {rs : List (List Int)} {k : Nat} (h : Recs [.i64, .u64, .u64] w ao rs) (hf : ∀ r ∈ rs, RecOk [.i64, .u64, .u64] r) (hk : k < rs.length) :
    ∃ (d : Int) (u e g off : Nat), ao = some ⟨g, off, none⟩ ∧ g < w.heap.size ∧ u < 18446744073709551616 ∧ e < 18446744073709551616 ∧ -9223372036854775808 ≤ d ∧ d ≤ 9223372036854775807 ∧
      w.cell? ⟨g, off + k * 3, none⟩ = some (.int .i64 d) ∧ w.cell? ⟨g, off + k * 3 + 1, none⟩ = some (.int .u64 u) ∧ w.cell? ⟨g, off + k * 3 + 2, none⟩ = some (.int .u64 e) := by
  have hr : rs[k]? = some rs[k] := by simp [hk]
  obtain ⟨hl, hz⟩ := hf rs[k] (List.getElem_mem hk)
  generalize rs[k] = r at hr hl hz
  obtain ⟨g, off, e, hg, hc⟩ := h k r hr
  match r, hl with
  | [d, U, E], _ =>
    have b0 := bounds_i64 (hz 0 _ .i64 rfl rfl)
    have b1 := bounds_u64 (hz 1 _ .u64 rfl rfl)
    have b2 := bounds_u64 (hz 2 _ .u64 rfl rfl)
    obtain ⟨U, rfl⟩ := Int.eq_ofNat_of_zero_le b1.1
    obtain ⟨E, rfl⟩ := Int.eq_ofNat_of_zero_le b2.1
    exact ⟨d, U, E, g, off, e, hg, by omega, by omega, by omega, by omega, hc 0 _ _ rfl rfl, hc 1 _ _ rfl rfl, hc 2 _ _ rfl rfl⟩

set_option maxRecDepth 100000 in
set_option maxHeartbeats 8000000 in
theorem plays_walk (rs : List (List Int)) (ao : Option Addr) (ca : Nat) (w : World) (hg : Laid w) (hfit : ∀ r ∈ rs, RecOk [.i64, .u64, .u64] r) (hc : Recs [.i64, .u64, .u64] w ao rs) (hml : rs.length ≤ 9223372036854775807) :
    Calls Tryd.prog 4 #[.slice ao rs.length ca] w fun e w' => e = .returned (.bool true) ∧ New w w' := by
  obtain ⟨K, hK⟩ : ∃ K, rs.length = K := ⟨_, rfl⟩
  rw [hK] at hml ⊢
  have HG := Lib.hid hg
  have HC := Lib.hid hc
  have HFIT := Lib.hid hfit
  have HK := Lib.hid hK
  clear hg hc hfit hK
  go_enter Tryd.func4, Tryd.ntmps4
  go_wp2_with fail
  refine (cnew_any _).mono ?_
  rintro e w1 ⟨cb, hb, mb, bm, rfl, hfr, hr, hn1⟩
  have HR := Lib.hid hr
  have HN := Lib.hid hn1
  have HF := Lib.hid (show CFresh w.heap.size cb hb mb bm _ from hfr)
  clear hr hn1 hfr
  go_wp2_with fail
  obtain ⟨W0, hW0⟩ : ∃ W0, w1.alloc (.cells #[.int .u64 0, .slice none 0 0, .int .i64 0] 46) = W0 := ⟨_, rfl⟩
  have hb0 : W0.heap[w1.heap.size]? = some (.cells #[.int .u64 0, .slice none 0 0, .int .i64 0] 46 (0, 0)) := by rw [← hW0]; exact block_alloc_new _ _
  have f0 : New w1 W0 := by rw [← hW0]; exact (Fr.refl _ _).alloc _
  obtain ⟨rb, hrb⟩ : ∃ rb, w1.heap.size = rb := ⟨_, rfl⟩
  have hap : ∀ k, cOwn cb hb mb bm (.slice none 0 0) k → ¬ dOwn w1.heap.size (.slice none 0 0) k := fun k hk hd => by
    have := HR.out.lt hk
    rcases hd with rfl | hd
    · omega
    · cases hd
  have hfb : FreshB w.heap.size cb hb mb bm w1.heap.size (.slice none 0 0) (.slice none 0 0) := fun k hk => by
    rcases hk with hk | rfl | hk
    · exact HF.out k hk
    · exact HN.out.size
    · cases hk
  have HP := Lib.hid (show PlayR w cb hb mb bm w1.heap.size 0 W0 from ⟨_, _, [], 0, 0, ⟨⟨HR.out.new f0, ⟨hb0, World.ownsRow_nil _ _ _ _, by simp⟩, hap⟩, hfb, HN.out.trans f0⟩, by omega, by simp, by omega⟩)
  rw [hW0]
  rw [hrb] at HP ⊢
  clear hW0 hb0 f0 hap hfb HR HN HF hrb
  go_loopw [5] (fun i wr => ∃ k : Nat, k ≤ K ∧ k ≤ 120 ∧ i = .int .i64 k ∧ PlayR w cb hb mb bm rb k wr) (fun i _ => K - (intOf i).toNat)
  case atStart => exact ⟨0, by omega, by omega, rfl, HP.out⟩
  case round =>
    clear HP
    obtain ⟨k, hk, hk3, rfl, hpl⟩ := hrel
    have HP := Lib.hid hpl
    clear hpl
    by_cases hend : k < K ∧ k < 120
    · obtain ⟨hlt, hlt3⟩ := hend
      obtain ⟨d, u, dl, g, off, rfl, hg1, hu, hdl, hd1, hd2, c0, c1, c2⟩ := op_at (HC.out.keep HP.out.n) HFIT.out (by rw [HK.out]; exact hlt)
      obtain ⟨q, hq, hq5⟩ := within_nat d 7 (by omega)
      have HQ := Lib.hid hq
      clear hq
      go_wp2_with fail
      refine (within_any d 7 _ (by omega) (by omega) (by omega) (by omega)).mono ?_
      rintro e w' ⟨rfl, rfl⟩
      rw [HQ.out]
      clear HQ
      go_upto_block 2 with fail
      obtain ⟨W0, hW0⟩ : ∃ W0, wr.alloc (.cells #[.int .i64 d, .int .u64 u, .int .u64 dl] 48) = W0 := ⟨_, rfl⟩
      have hx0 : Arr W0 wr.heap.size [.int .i64 d, .int .u64 u, .int .u64 dl] := by rw [← hW0]; exact Arr.new _ _ _
      have hn0 : New wr W0 := by rw [← hW0]; exact (Fr.refl _ _).alloc _
      rw [hW0]
      obtain ⟨v, v2, S, last, now, hp, hf1, hf2, hf3⟩ := HP.out
      have hcx : ¬ cOwn cb hb mb bm v wr.heap.size := fun e => absurd (hp.b.c.lt e) (Nat.lt_irrefl _)
      have hrx : rb < wr.heap.size := hp.b.d.lt (.inl rfl)
      have HX := Lib.hid hx0
      have HP0 := Lib.hid (hp.new hn0)
      have HCX := Lib.hid hcx
      have hxlt := hx0.lt
      have hxw : w.heap.size ≤ wr.heap.size := hp.n.size
      generalize hxb : wr.heap.size = xb at HX HCX hrx hxlt hxw ⊢
      clear hW0 hx0 hn0 hxb c0 c1 c2 hp hcx HP
      go_cut [] (fun wx => PlayR w cb hb mb bm rb (k + 1) wx)
      case first => as_aux_lemma =>
        rcases (show (q = 0 ∨ q = 1 ∨ q = 2) ∨ q = 3 ∨ q = 4 ∨ (q = 5 ∨ q = 6) by omega) with hq | rfl | rfl | hq
        · have e3 : ((q : Int) == 3) = false := by rw [beq_eq_false_iff_ne]; omega
          have e4 : ((q : Int) == 4) = false := by rw [beq_eq_false_iff_ne]; omega
          have e5 : ((q : Int) == 5) = false := by rw [beq_eq_false_iff_ne]; omega
          have e6 : ((q : Int) == 6) = false := by rw [beq_eq_false_iff_ne]; omega
          clear hq
          go_wp2_with fail
          have s0 : W0.drew.cell? ⟨xb, 1, none⟩ = some (.int .u64 u) ∧ W0.drew.cell? ⟨xb, 2, none⟩ = some (.int .u64 dl) := ⟨HX.out.cell 1 _ rfl, HX.out.cell 2 _ rfl⟩
          refine heldStart (fun W1 => W1.cell? ⟨xb, 1, none⟩ = some (.int .u64 u) ∧ W1.cell? ⟨xb, 2, none⟩ = some (.int .u64 dl)) (by kernel_rfl) ?_
          refine wpAnyH_take (i := 0) (v := ?_) rfl (by kernel_rfl) (by kernel_rfl) (by kernel_rfl) (fun _ _ _ h => h) (Or.inl ⟨by rfl, ?_⟩) s0 ?_
          rotate_left
          · intro w hSw; first | (obtain ⟨s1, s2, s3, s4, s5, s6, s7⟩ := hSw; go_simp; rfl) | (obtain ⟨s1, s2, s3⟩ := hSw; go_simp; rfl) | (obtain ⟨s1, s2⟩ := hSw; go_simp; rfl) | (have s1 := hSw; go_simp; rfl)
          go_simp
          refine wpAnyH_take (i := 1) (v := ?_) rfl (by kernel_rfl) (by kernel_rfl) (by kernel_rfl) (fun _ _ _ h => h) (Or.inl ⟨by rfl, ?_⟩) s0 ?_
          rotate_left
          · intro w hSw; first | (obtain ⟨s1, s2, s3, s4, s5, s6, s7⟩ := hSw; go_simp; rfl) | (obtain ⟨s1, s2, s3⟩ := hSw; go_simp; rfl) | (obtain ⟨s1, s2⟩ := hSw; go_simp; rfl) | (have s1 := hSw; go_simp; rfl)
          go_simp
          refine wpAnyH_take (i := 2) (v := ?_) rfl (by kernel_rfl) (by kernel_rfl) (by kernel_rfl) (fun _ _ _ h => h) (Or.inl ⟨by rfl, ?_⟩) s0 ?_
          rotate_left
          · intro w hSw; first | (obtain ⟨s1, s2, s3, s4, s5, s6, s7⟩ := hSw; go_simp; rfl) | (obtain ⟨s1, s2, s3⟩ := hSw; go_simp; rfl) | (obtain ⟨s1, s2⟩ := hSw; go_simp; rfl) | (have s1 := hSw; go_simp; rfl)
          go_simp
          refine wpAnyH_take (i := 3) (v := ?_) rfl (by kernel_rfl) (by kernel_rfl) (by kernel_rfl) (fun _ _ _ h => h) (Or.inl ⟨by rfl, ?_⟩) s0 ?_
          rotate_left
          · intro w hSw; first | (obtain ⟨s1, s2, s3, s4, s5, s6, s7⟩ := hSw; go_simp; rfl) | (obtain ⟨s1, s2, s3⟩ := hSw; go_simp; rfl) | (obtain ⟨s1, s2⟩ := hSw; go_simp; rfl) | (have s1 := hSw; go_simp; rfl)
          go_simp
          refine wpAnyH_take (i := 4) (v := ?_) rfl (by kernel_rfl) (by kernel_rfl) (by kernel_rfl) (fun _ _ _ h => h) (Or.inl ⟨by rfl, ?_⟩) s0 ?_
          rotate_left
          · intro w hSw; first | (obtain ⟨s1, s2, s3, s4, s5, s6, s7⟩ := hSw; go_simp; rfl) | (obtain ⟨s1, s2, s3⟩ := hSw; go_simp; rfl) | (obtain ⟨s1, s2⟩ := hSw; go_simp; rfl) | (have s1 := hSw; go_simp; rfl)
          go_simp
          refine wpAnyH_take (i := 6) (v := ?_) rfl (by kernel_rfl) (by kernel_rfl) (by kernel_rfl) (fun _ _ _ h => h) (Or.inl ⟨by rfl, ?_⟩) s0 ?_
          rotate_left
          · intro w hSw; first | (obtain ⟨s1, s2, s3, s4, s5, s6, s7⟩ := hSw; go_simp; rfl) | (obtain ⟨s1, s2, s3⟩ := hSw; go_simp; rfl) | (obtain ⟨s1, s2⟩ := hSw; go_simp; rfl) | (have s1 := hSw; go_simp; rfl)
          go_simp
          refine wpAnyH_take (i := 7) (v := ?_) rfl (by kernel_rfl) (by kernel_rfl) (by kernel_rfl) (fun _ _ _ h => h) (Or.inl ⟨by rfl, ?_⟩) s0 ?_
          rotate_left
          · intro w hSw; first | (obtain ⟨s1, s2, s3, s4, s5, s6, s7⟩ := hSw; go_simp; rfl) | (obtain ⟨s1, s2, s3⟩ := hSw; go_simp; rfl) | (obtain ⟨s1, s2⟩ := hSw; go_simp; rfl) | (have s1 := hSw; go_simp; rfl)
          go_simp
          refine wpAnyH_take (i := 8) (v := ?_) rfl (by kernel_rfl) (by kernel_rfl) (by kernel_rfl) (fun _ _ _ h => h) (Or.inl ⟨by rfl, ?_⟩) s0 ?_
          rotate_left
          · intro w hSw; first | (obtain ⟨s1, s2, s3, s4, s5, s6, s7⟩ := hSw; go_simp; rfl) | (obtain ⟨s1, s2, s3⟩ := hSw; go_simp; rfl) | (obtain ⟨s1, s2⟩ := hSw; go_simp; rfl) | (have s1 := hSw; go_simp; rfl)
          go_simp
          refine wpAnyH_take (i := 9) (v := ?_) rfl (by kernel_rfl) (by kernel_rfl) (by kernel_rfl) (fun _ _ _ h => h) (Or.inl ⟨by rfl, ?_⟩) s0 ?_
          rotate_left
          · intro w hSw; first | (obtain ⟨s1, s2, s3, s4, s5, s6, s7⟩ := hSw; go_simp; rfl) | (obtain ⟨s1, s2, s3⟩ := hSw; go_simp; rfl) | (obtain ⟨s1, s2⟩ := hSw; go_simp; rfl) | (have s1 := hSw; go_simp; rfl)
          go_simp
          refine wpAnyH_take (i := 10) (v := ?_) rfl (by kernel_rfl) (by kernel_rfl) (by kernel_rfl) (fun _ _ _ h => h) (Or.inl ⟨by rfl, ?_⟩) s0 ?_
          rotate_left
          · intro w hSw; first | (obtain ⟨s1, s2, s3, s4, s5, s6, s7⟩ := hSw; go_simp; rfl) | (obtain ⟨s1, s2, s3⟩ := hSw; go_simp; rfl) | (obtain ⟨s1, s2⟩ := hSw; go_simp; rfl) | (have s1 := hSw; go_simp; rfl)
          go_simp
          have hd0 : New W0 W0.drew := (Fr.refl _ _).drew
          have HD := Lib.hid (HP0.out.new hd0)
          have hz0 : xb < W0.drew.heap.size := hxlt
          clear hd0
          generalize W0.drew = V0 at HD s0 hz0 ⊢
          refine heldOne (i := 5) (by kernel_rfl) rfl (by rfl) (fun K hK => ?_)
          go_simp
          refine (parm_any HD.out.b.c hu hdl (by omega) (by omega)).mono ?_
          rintro e w3 ⟨x, v3, rfl, hx, hr3, ho3, f3⟩
          have s1 : w3.cell? ⟨xb, 1, none⟩ = some (.int .u64 u) ∧ w3.cell? ⟨xb, 2, none⟩ = some (.int .u64 dl) := ⟨(f3.cell hz0 HCX.out _).trans s0.1, (f3.cell hz0 HCX.out _).trans s0.2⟩
          have G3 := Lib.hid (HD.out.prog hr3 ho3 f3)
          have hz1 := f3.size
          refine hK.out _ _ s1 ?_
          clear hK K hr3 ho3
          refine heldOne (i := 11) (by kernel_rfl) rfl (by rfl) (fun K hK => ?_)
          go_simp
          refine (rarm_any G3.out.b.d (by omega) (by omega)).mono ?_
          rintro e w4 ⟨f, v4, rfl, hfl, hr4, ho4, f4⟩
          have hx4 : Says w4 clockL x (armErr S u) := Says.keep f4 (fun b c hb e => by
            subst e
            rw [G3.out.b.d.hd, Option.some.injEq, Obj.cells.injEq] at hb
            exact absurd hb.2.1 (by decide)) hx
          have s2 : w4.cell? ⟨xb, 1, none⟩ = some (.int .u64 u) ∧ w4.cell? ⟨xb, 2, none⟩ = some (.int .u64 dl) := ⟨(f4.cell (by omega) (by omega) _).trans s1.1, (f4.cell (by omega) (by omega) _).trans s1.2⟩
          have G4 := Lib.hid (G3.out.doc hr4 ho4 f4)
          have hz2 := f4.size
          refine hK.out _ _ s2 ?_
          clear hK K hx hr4 ho4
          refine heldOne (i := 12) (by kernel_rfl) rfl (by rfl) (fun K hK => ?_)
          go_simp
          refine (same_says x f clockL _ w4 (HG.out.keep G4.out.n id) hx4 hfl).mono ?_
          rintro e w5 ⟨rfl, hn5⟩
          have s3 : w5.cell? ⟨xb, 1, none⟩ = some (.int .u64 u) ∧ w5.cell? ⟨xb, 2, none⟩ = some (.int .u64 dl) := ⟨(hn5.cell (by omega) id _).trans s2.1, (hn5.cell (by omega) id _).trans s2.2⟩
          have G5 := Lib.hid (G4.out.new hn5)
          refine hK.out _ _ s3 ?_
          clear hK K hx4 hfl s2 s1 s0 f3 f4 hn5
          refine wpAnyH_take (i := 13) (v := ?_) rfl (by kernel_rfl) (by kernel_rfl) (by kernel_rfl) (fun _ _ _ h => h) (Or.inl ⟨by rfl, ?_⟩) s3 ?_
          rotate_left
          · intro w hSw; first | (obtain ⟨s1, s2, s3, s4, s5, s6, s7⟩ := hSw; go_simp; rfl) | (obtain ⟨s1, s2, s3⟩ := hSw; go_simp; rfl) | (obtain ⟨s1, s2⟩ := hSw; go_simp; rfl) | (have s1 := hSw; go_simp; rfl)
          refine wpAnyH_done (by kernel_rfl) ?_ _
          clear s3
          go_wp2_with fail
          go_meet
          exact ⟨_, _, _, _, _, G5.out, by have := armL_le S last u dl; omega, by have := armS_len S last u dl; omega, by omega⟩
        · rw [show ((3 : Nat) : Int) = 3 from rfl]
          obtain ⟨y, hy⟩ : ∃ y, hasW S u = y := ⟨_, rfl⟩
          have u2 : (y != y) = false := by simp
          have HY := Lib.hid hy
          clear hy
          go_wp2_with fail
          have s0 : W0.drew.cell? ⟨xb, 1, none⟩ = some (.int .u64 u) := HX.out.cell 1 _ rfl
          refine heldStart (fun W1 => W1.cell? ⟨xb, 1, none⟩ = some (.int .u64 u)) (by kernel_rfl) ?_
          refine wpAnyH_take (i := 0) (v := ?_) rfl (by kernel_rfl) (by kernel_rfl) (by kernel_rfl) (fun _ _ _ h => h) (Or.inl ⟨by rfl, ?_⟩) s0 ?_
          rotate_left
          · intro w hSw; first | (obtain ⟨s1, s2, s3, s4, s5, s6, s7⟩ := hSw; go_simp; rfl) | (obtain ⟨s1, s2, s3⟩ := hSw; go_simp; rfl) | (obtain ⟨s1, s2⟩ := hSw; go_simp; rfl) | (have s1 := hSw; go_simp; rfl)
          refine wpAnyH_take (i := 1) (v := ?_) rfl (by kernel_rfl) (by kernel_rfl) (by kernel_rfl) (fun _ _ _ h => h) (Or.inl ⟨by rfl, ?_⟩) s0 ?_
          rotate_left
          · intro w hSw; first | (obtain ⟨s1, s2, s3, s4, s5, s6, s7⟩ := hSw; go_simp; rfl) | (obtain ⟨s1, s2, s3⟩ := hSw; go_simp; rfl) | (obtain ⟨s1, s2⟩ := hSw; go_simp; rfl) | (have s1 := hSw; go_simp; rfl)
          refine wpAnyH_take (i := 2) (v := ?_) rfl (by kernel_rfl) (by kernel_rfl) (by kernel_rfl) (fun _ _ _ h => h) (Or.inl ⟨by rfl, ?_⟩) s0 ?_
          rotate_left
          · intro w hSw; first | (obtain ⟨s1, s2, s3, s4, s5, s6, s7⟩ := hSw; go_simp; rfl) | (obtain ⟨s1, s2, s3⟩ := hSw; go_simp; rfl) | (obtain ⟨s1, s2⟩ := hSw; go_simp; rfl) | (have s1 := hSw; go_simp; rfl)
          refine wpAnyH_take (i := 4) (v := ?_) rfl (by kernel_rfl) (by kernel_rfl) (by kernel_rfl) (fun _ _ _ h => h) (Or.inl ⟨by rfl, ?_⟩) s0 ?_
          rotate_left
          · intro w hSw; first | (obtain ⟨s1, s2, s3, s4, s5, s6, s7⟩ := hSw; go_simp; rfl) | (obtain ⟨s1, s2, s3⟩ := hSw; go_simp; rfl) | (obtain ⟨s1, s2⟩ := hSw; go_simp; rfl) | (have s1 := hSw; go_simp; rfl)
          refine wpAnyH_take (i := 5) (v := ?_) rfl (by kernel_rfl) (by kernel_rfl) (by kernel_rfl) (fun _ _ _ h => h) (Or.inl ⟨by rfl, ?_⟩) s0 ?_
          rotate_left
          · intro w hSw; first | (obtain ⟨s1, s2, s3, s4, s5, s6, s7⟩ := hSw; go_simp; rfl) | (obtain ⟨s1, s2, s3⟩ := hSw; go_simp; rfl) | (obtain ⟨s1, s2⟩ := hSw; go_simp; rfl) | (have s1 := hSw; go_simp; rfl)
          refine wpAnyH_take (i := 6) (v := ?_) rfl (by kernel_rfl) (by kernel_rfl) (by kernel_rfl) (fun _ _ _ h => h) (Or.inl ⟨by rfl, ?_⟩) s0 ?_
          rotate_left
          · intro w hSw; first | (obtain ⟨s1, s2, s3, s4, s5, s6, s7⟩ := hSw; go_simp; rfl) | (obtain ⟨s1, s2, s3⟩ := hSw; go_simp; rfl) | (obtain ⟨s1, s2⟩ := hSw; go_simp; rfl) | (have s1 := hSw; go_simp; rfl)
          have hd0 : New W0 W0.drew := (Fr.refl _ _).drew
          have HD := Lib.hid (HP0.out.new hd0)
          have hz0 : xb < W0.drew.heap.size := hxlt
          clear hd0
          generalize W0.drew = V0 at HD s0 hz0 ⊢
          refine heldOne (i := 3) (by kernel_rfl) rfl (by rfl) (fun K hK => ?_)
          go_simp
          refine (pdisarm_any HD.out.b.c hu).mono ?_
          rintro e w3 ⟨rfl, v3, hr3, ho3, f3⟩
          rw [HY.out]
          have s1 : w3.cell? ⟨xb, 1, none⟩ = some (.int .u64 u) := (f3.cell hz0 HCX.out _).trans s0
          have G3 := Lib.hid (HD.out.prog hr3 ho3 f3)
          have hz1 := f3.size
          refine hK.out _ _ s1 ?_
          clear hK K hr3 ho3
          refine heldOne (i := 7) (by kernel_rfl) rfl (by rfl) (fun K hK => ?_)
          go_simp
          refine (rdisarm_any G3.out.b.d HD.out.b.c.once (hs_of HD.out.b.c.heap)).mono ?_
          rintro e w4 ⟨rfl, v4, hr4, ho4, f4⟩
          rw [HY.out]
          have s2 : w4.cell? ⟨xb, 1, none⟩ = some (.int .u64 u) := (f4.cell (by omega) (by omega) _).trans s1
          have G4 := Lib.hid (G3.out.doc hr4 ho4 f4)
          refine hK.out _ _ s2 ?_
          clear hK K hr4 ho4 s1 s0 f3 f4
          refine wpAnyH_take (i := 8) (v := ?_) rfl (by kernel_rfl) (by kernel_rfl) (by kernel_rfl) (fun _ _ _ h => h) (Or.inl ⟨by rfl, ?_⟩) s2 ?_
          rotate_left
          · intro w hSw; first | (obtain ⟨s1, s2, s3, s4, s5, s6, s7⟩ := hSw; go_simp; rfl) | (obtain ⟨s1, s2, s3⟩ := hSw; go_simp; rfl) | (obtain ⟨s1, s2⟩ := hSw; go_simp; rfl) | (have s1 := hSw; go_simp; rfl)
          refine wpAnyH_done (by kernel_rfl) ?_ _
          clear s2
          go_wp2_with fail
          go_meet
          exact ⟨_, _, _, _, _, G4.out, by omega, by have := offW_len S u; omega, by omega⟩
        · rw [show ((4 : Nat) : Int) = 4 from rfl]
          have x1 : W0.cell? ⟨xb, 1, none⟩ = some (.int .u64 u) := HX.out.cell 1 _ rfl
          have hpd := pdeadline_any HP0.out.b.c hu
          have hrd := fun w1 (f : New W0 w1) => rdeadline_any rb v2 S last now u w1 (HP0.out.b.d.new f)
          generalize ((findW S u).map (·.d)).getD 0 = z at hpd hrd
          generalize (findW S u).isSome = y at hpd hrd
          have u1 : ((z : Int) != (z : Int)) = false := by simp
          have u2 : (y != y) = false := by simp
          have HPD := Lib.hid hpd
          have HRD := Lib.hid hrd
          clear hpd hrd
          go_wp2_with fail
          refine HPD.out.mono ?_
          rintro e w3 ⟨rfl, hn3⟩
          have x1' : w3.cell? ⟨xb, 1, none⟩ = some (.int .u64 u) := (hn3.cell hxlt id _).trans x1
          have HN3 := Lib.hid hn3
          clear hn3 x1
          go_wp2_with fail
          refine (HRD.out _ HN3.out).mono ?_
          rintro e w4 ⟨rfl, hn4⟩
          have G4 := Lib.hid (HP0.out.new (HN3.out.trans hn4))
          clear hn4 x1'
          go_wp2_with fail
          go_meet
          exact ⟨_, _, _, _, _, G4.out, by omega, by omega, by omega⟩
        · have e3 : ((q : Int) == 3) = false := by rw [beq_eq_false_iff_ne]; omega
          have e4 : ((q : Int) == 4) = false := by rw [beq_eq_false_iff_ne]; omega
          have hqq : ((q : Int) == 5) = true ∨ (((q : Int) == 5) = false ∧ ((q : Int) == 6) = true) := by
            rcases hq with rfl | rfl
            · exact .inl rfl
            · exact .inr ⟨rfl, rfl⟩
          clear hq
          rcases hqq with e5 | ⟨e5, e6⟩
          all_goals
            go_wp2_with fail
            refine (tick_any cb hb mb bm v S last now W0 HP0.out.b.c (by omega)).mono ?_
            rintro e w3 ⟨vl, v3, rfl, hrow3, hr3, ho3, f3⟩
            have G3 := Lib.hid (HP0.out.prog hr3 (fun k hk => .inl (ho3 k hk)) f3)
            have HW3 := Lib.hid hrow3
            clear hr3 ho3 f3 hrow3
            go_wp2_with fail
            refine (rtick_any rb v2 S last now w3 G3.out.b.d (by omega)).mono ?_
            rintro e w4 ⟨vl2, v4, rfl, hrow4, hr4, ho4, f4⟩
            have G4 := Lib.hid (G3.out.doc hr4 ho4 f4)
            have ha4 := own_kept HW3.out f4 (fun k hk e => by have := (HW3.out.lt k hk).1; omega)
            obtain ⟨ao2, ca2, rfl, hna⟩ := nats_row ha4
            obtain ⟨bo2, cb2, rfl, hnb⟩ := nats_row hrow4
            have hdu := due_le S (now + 1)
            have hws := words_same ((due S (now + 1)).map Th.what) ao2 bo2 ca2 cb2 w4 hna hnb (by rw [List.length_map]; omega)
            rw [List.length_map] at hws
            have HWS := Lib.hid hws
            generalize (due S (now + 1)).length = M at HWS ⊢
            clear hws hna hnb ha4 hrow4 hr4 ho4 f4 hdu
            go_wp2_with fail
            refine HWS.out.mono ?_
            rintro e w5 ⟨rfl, hn5⟩
            have G5 := Lib.hid (G4.out.new hn5)
            clear hn5
            go_wp2_with fail
            go_meet
            exact ⟨_, _, _, _, _, G5.out, by omega, by have := rest_le S (now + 1); omega, by omega⟩
      clear HP0 HX HCX hrx hxlt hxw hf1 hf2 hf3
      clear v v2 S last now
      obtain ⟨v, v2, S, last, now, hp, hf1, hf2, hf3⟩ := hcut
      obtain ⟨ao2, cap2, rfl, _⟩ := owned_form hp.b.d.own
      obtain ⟨n, hn⟩ : ∃ n, S.length = n := ⟨_, rfl⟩
      have hd1 := hp.b.d.hd
      rw [hn] at hd1 hf2
      have hap := armed_any cb hb mb bm v S last now
      rw [hn] at hap
      have HN := Lib.hid hn
      have HP1 := Lib.hid hp
      have HAP := Lib.hid hap
      have HD1 := Lib.hid hd1
      have t0 : ((now : Int) != (now : Int)) = false := by simp
      have t1 : ((n : Int) != (n : Int)) = false := by simp
      clear hn hap hp hd1
      go_wp2_with fail
      have s0 : wc.drew.cell? ⟨rb, 0, none⟩ = some (.int .u64 now) ∧ wc.drew.cell? ⟨rb, 1, none⟩ = some (.slice ao2 n cap2) := ⟨cell_of_block HD1.out 0, cell_of_block HD1.out 1⟩
      refine heldStart (fun W1 => W1.cell? ⟨rb, 0, none⟩ = some (.int .u64 now) ∧ W1.cell? ⟨rb, 1, none⟩ = some (.slice ao2 n cap2)) (by kernel_rfl) ?_
      have HP2 := Lib.hid (HP1.out.new (Fr.refl _ _).drew)
      clear HP1 HD1
      generalize wc.drew = V0 at HP2 s0 ⊢
      refine wpAnyH_take (i := 0) (v := ?_) rfl (by kernel_rfl) (by kernel_rfl) (by kernel_rfl) (fun _ _ _ h => h) (Or.inl ⟨by rfl, ?_⟩) s0 ?_
      rotate_left
      · intro w hSw; first | (obtain ⟨s1, s2, s3, s4, s5, s6, s7⟩ := hSw; go_simp; rfl) | (obtain ⟨s1, s2, s3⟩ := hSw; go_simp; rfl) | (obtain ⟨s1, s2⟩ := hSw; go_simp; rfl) | (have s1 := hSw; go_simp; rfl)
      go_simp
      refine wpAnyH_take (i := 2) (v := ?_) rfl (by kernel_rfl) (by kernel_rfl) (by kernel_rfl) (fun _ _ _ h => h) (Or.inl ⟨by rfl, ?_⟩) s0 ?_
      rotate_left
      · intro w hSw; first | (obtain ⟨s1, s2, s3, s4, s5, s6, s7⟩ := hSw; go_simp; rfl) | (obtain ⟨s1, s2, s3⟩ := hSw; go_simp; rfl) | (obtain ⟨s1, s2⟩ := hSw; go_simp; rfl) | (have s1 := hSw; go_simp; rfl)
      go_simp
      refine wpAnyH_take (i := 3) (v := ?_) rfl (by kernel_rfl) (by kernel_rfl) (by kernel_rfl) (fun _ _ _ h => h) (Or.inl ⟨by rfl, ?_⟩) s0 ?_
      rotate_left
      · intro w hSw; first | (obtain ⟨s1, s2, s3, s4, s5, s6, s7⟩ := hSw; go_simp; rfl) | (obtain ⟨s1, s2, s3⟩ := hSw; go_simp; rfl) | (obtain ⟨s1, s2⟩ := hSw; go_simp; rfl) | (have s1 := hSw; go_simp; rfl)
      go_simp
      refine wpAnyH_take (i := 4) (v := ?_) rfl (by kernel_rfl) (by kernel_rfl) (by kernel_rfl) (fun _ _ _ h => h) (Or.inl ⟨by rfl, ?_⟩) s0 ?_
      rotate_left
      · intro w hSw; first | (obtain ⟨s1, s2, s3, s4, s5, s6, s7⟩ := hSw; go_simp; rfl) | (obtain ⟨s1, s2, s3⟩ := hSw; go_simp; rfl) | (obtain ⟨s1, s2⟩ := hSw; go_simp; rfl) | (have s1 := hSw; go_simp; rfl)
      go_simp
      refine wpAnyH_take (i := 5) (v := ?_) rfl (by kernel_rfl) (by kernel_rfl) (by kernel_rfl) (fun _ _ _ h => h) (Or.inl ⟨by rfl, ?_⟩) s0 ?_
      rotate_left
      · intro w hSw; first | (obtain ⟨s1, s2, s3, s4, s5, s6, s7⟩ := hSw; go_simp; rfl) | (obtain ⟨s1, s2, s3⟩ := hSw; go_simp; rfl) | (obtain ⟨s1, s2⟩ := hSw; go_simp; rfl) | (have s1 := hSw; go_simp; rfl)
      go_simp
      refine heldOne (i := 1) (by kernel_rfl) rfl (by rfl) (fun K hK => ?_)
      go_simp
      refine (now_any cb hb mb bm v S last now V0 HP2.out.b.c).mono ?_
      rintro e w3 ⟨rfl, rfl⟩
      refine hK.out _ _ s0 ?_
      clear hK K
      refine wpAnyH_take (i := 6) (v := ?_) rfl (by kernel_rfl) (by kernel_rfl) (by kernel_rfl) (fun _ _ _ h => h) (Or.inl ⟨by rfl, ?_⟩) s0 ?_
      rotate_left
      · intro w hSw; first | (obtain ⟨s1, s2, s3, s4, s5, s6, s7⟩ := hSw; go_simp; rfl) | (obtain ⟨s1, s2, s3⟩ := hSw; go_simp; rfl) | (obtain ⟨s1, s2⟩ := hSw; go_simp; rfl) | (have s1 := hSw; go_simp; rfl)
      go_simp
      refine wpAnyH_take (i := 7) (v := ?_) rfl (by kernel_rfl) (by kernel_rfl) (by kernel_rfl) (fun _ _ _ h => h) (Or.inl ⟨by rfl, ?_⟩) s0 ?_
      rotate_left
      · intro w hSw; first | (obtain ⟨s1, s2, s3, s4, s5, s6, s7⟩ := hSw; go_simp; rfl) | (obtain ⟨s1, s2, s3⟩ := hSw; go_simp; rfl) | (obtain ⟨s1, s2⟩ := hSw; go_simp; rfl) | (have s1 := hSw; go_simp; rfl)
      go_simp
      refine wpAnyH_take (i := 8) (v := ?_) rfl (by kernel_rfl) (by kernel_rfl) (by kernel_rfl) (fun _ _ _ h => h) (Or.inl ⟨by rfl, ?_⟩) s0 ?_
      rotate_left
      · intro w hSw; first | (obtain ⟨s1, s2, s3, s4, s5, s6, s7⟩ := hSw; go_simp; rfl) | (obtain ⟨s1, s2, s3⟩ := hSw; go_simp; rfl) | (obtain ⟨s1, s2⟩ := hSw; go_simp; rfl) | (have s1 := hSw; go_simp; rfl)
      go_simp
      refine wpAnyH_take (i := 10) (v := ?_) rfl (by kernel_rfl) (by kernel_rfl) (by kernel_rfl) (fun _ _ _ h => h) (Or.inl ⟨by rfl, ?_⟩) s0 ?_
      rotate_left
      · intro w hSw; first | (obtain ⟨s1, s2, s3, s4, s5, s6, s7⟩ := hSw; go_simp; rfl) | (obtain ⟨s1, s2, s3⟩ := hSw; go_simp; rfl) | (obtain ⟨s1, s2⟩ := hSw; go_simp; rfl) | (have s1 := hSw; go_simp; rfl)
      go_simp
      refine wpAnyH_take (i := 11) (v := ?_) rfl (by kernel_rfl) (by kernel_rfl) (by kernel_rfl) (fun _ _ _ h => h) (Or.inl ⟨by rfl, ?_⟩) s0 ?_
      rotate_left
      · intro w hSw; first | (obtain ⟨s1, s2, s3, s4, s5, s6, s7⟩ := hSw; go_simp; rfl) | (obtain ⟨s1, s2, s3⟩ := hSw; go_simp; rfl) | (obtain ⟨s1, s2⟩ := hSw; go_simp; rfl) | (have s1 := hSw; go_simp; rfl)
      go_simp
      refine wpAnyH_take (i := 12) (v := ?_) rfl (by kernel_rfl) (by kernel_rfl) (by kernel_rfl) (fun _ _ _ h => h) (Or.inl ⟨by rfl, ?_⟩) s0 ?_
      rotate_left
      · intro w hSw; first | (obtain ⟨s1, s2, s3, s4, s5, s6, s7⟩ := hSw; go_simp; rfl) | (obtain ⟨s1, s2, s3⟩ := hSw; go_simp; rfl) | (obtain ⟨s1, s2⟩ := hSw; go_simp; rfl) | (have s1 := hSw; go_simp; rfl)
      go_simp
      refine wpAnyH_take (i := 13) (v := ?_) rfl (by kernel_rfl) (by kernel_rfl) (by kernel_rfl) (fun _ _ _ h => h) (Or.inl ⟨by rfl, ?_⟩) s0 ?_
      rotate_left
      · intro w hSw; first | (obtain ⟨s1, s2, s3, s4, s5, s6, s7⟩ := hSw; go_simp; rfl) | (obtain ⟨s1, s2, s3⟩ := hSw; go_simp; rfl) | (obtain ⟨s1, s2⟩ := hSw; go_simp; rfl) | (have s1 := hSw; go_simp; rfl)
      go_simp
      refine wpAnyH_take (i := 14) (v := ?_) rfl (by kernel_rfl) (by kernel_rfl) (by kernel_rfl) (fun _ _ _ h => h) (Or.inl ⟨by rfl, ?_⟩) s0 ?_
      rotate_left
      · intro w hSw; first | (obtain ⟨s1, s2, s3, s4, s5, s6, s7⟩ := hSw; go_simp; rfl) | (obtain ⟨s1, s2, s3⟩ := hSw; go_simp; rfl) | (obtain ⟨s1, s2⟩ := hSw; go_simp; rfl) | (have s1 := hSw; go_simp; rfl)
      go_simp
      refine wpAnyH_take (i := 15) (v := ?_) rfl (by kernel_rfl) (by kernel_rfl) (by kernel_rfl) (fun _ _ _ h => h) (Or.inl ⟨by rfl, ?_⟩) s0 ?_
      rotate_left
      · intro w hSw; first | (obtain ⟨s1, s2, s3, s4, s5, s6, s7⟩ := hSw; go_simp; rfl) | (obtain ⟨s1, s2, s3⟩ := hSw; go_simp; rfl) | (obtain ⟨s1, s2⟩ := hSw; go_simp; rfl) | (have s1 := hSw; go_simp; rfl)
      go_simp
      refine heldOne (i := 9) (by kernel_rfl) rfl (by rfl) (fun K hK => ?_)
      go_simp
      refine (HAP.out V0 HP2.out.b.c).mono ?_
      rintro e w3 ⟨rfl, rfl⟩
      refine hK.out _ _ s0 ?_
      clear hK K
      refine wpAnyH_take (i := 16) (v := ?_) rfl (by kernel_rfl) (by kernel_rfl) (by kernel_rfl) (fun _ _ _ h => h) (Or.inl ⟨by rfl, ?_⟩) s0 ?_
      rotate_left
      · intro w hSw; first | (obtain ⟨s1, s2, s3, s4, s5, s6, s7⟩ := hSw; go_simp; rfl) | (obtain ⟨s1, s2, s3⟩ := hSw; go_simp; rfl) | (obtain ⟨s1, s2⟩ := hSw; go_simp; rfl) | (have s1 := hSw; go_simp; rfl)
      go_simp
      refine wpAnyH_take (i := 17) (v := ?_) rfl (by kernel_rfl) (by kernel_rfl) (by kernel_rfl) (fun _ _ _ h => h) (Or.inl ⟨by rfl, ?_⟩) s0 ?_
      rotate_left
      · intro w hSw; first | (obtain ⟨s1, s2, s3, s4, s5, s6, s7⟩ := hSw; go_simp; rfl) | (obtain ⟨s1, s2, s3⟩ := hSw; go_simp; rfl) | (obtain ⟨s1, s2⟩ := hSw; go_simp; rfl) | (have s1 := hSw; go_simp; rfl)
      go_simp
      refine wpAnyH_done (by kernel_rfl) ?_ _
      clear s0
      go_wp2_with fail
      go_roundw
      case rel => exact ⟨k + 1, by omega, by omega, by go_num, ⟨_, _, S, _, _, HP2.out, by omega, by rw [HN.out]; omega, by omega⟩⟩
      case measure => simp [intOf]; omega
    · by_cases hkl : k < K
      all_goals
        go_wp2_with fail
        refine (awake_any wr).mono ?_
        rintro e w3 ⟨rfl, hn3⟩
        have HN3 := Lib.hid (HP.out.n.trans hn3)
        clear hn3
        go_wp2
        go_ret
        exact ⟨rfl, HN3.out⟩

end Go.Proofs.YtafeopcbfgmjkaaDoor
