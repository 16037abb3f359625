/- Blocks never overlap, lie in the room, and are mapped with their width; nothing else is: the statement's walk. -/
import Derived.Test.YtlmjogfjhngcoaaDoorAllocI
import Derived.Test.YtlmjogfjhngcoaaDoorInts
import Derived.Test.YtlmjogfjhngcoaaDoorWithin
import Derived.Test.YtlmjogfjhngcoaaDoorReg
import Derived.Deep.CutBlock
namespace Go.Proofs.YtlmjogfjhngcoaaDoor
open Go.RowKit

theorem Rm.widths {w0 w : World} {ab mb cb wb M : Nat} {F T : Int} {l : List Bk} (h : Rm w0 w ab mb cb wb F T l M) : ∀ b ∈ l, b.wid = 32 ∨ b.wid = 64 := by obtain ⟨v, ws, _, ho, _⟩ := h.ex; exact ho.wid
theorem usedN_take {l : List Bk} {j : Nat} {b : Bk} (h : l[j]? = some b) : usedN (l.take (j + 1)) = usedN (l.take j) + b.num := by rw [takeB h, usedN_snoc]

theorem Fits.ends {F T : Int} {l : List Bk} (h : Fits F T l) {j : Nat} {b : Bk} (hb : l[j]? = some b) : endA F l j ≤ b.pos := by
  cases j with
  | zero => exact (h.inn b (List.mem_of_getElem? hb)).1
  | succ j =>
    obtain ⟨l2, e2⟩ := List.getElem?_eq_some_iff.1 hb
    have hx : l[j]? = some l[j] := by simp
    rw [endA_succ hx, ← e2]
    exact List.pairwise_iff_getElem.1 h.srt j (j + 1) (by omega) l2 (by omega)

set_option maxRecDepth 100000 in
set_option maxHeartbeats 8000000 in
theorem apart_walk (xs ys : List Int) (ao bo : Option Addr) (ca cb0 : Nat) (w : World) (hg : Laid w) (hc : IntsI w ao xs) (hml : xs.length ≤ 9223372036854775807) (hxb : ∀ x ∈ xs, -9223372036854775808 ≤ x ∧ x ≤ 9223372036854775807)
    (hd : IntsI w bo ys) (hmy : ys.length ≤ 9223372036854775807) (hyb : ∀ x ∈ ys, -9223372036854775808 ≤ x ∧ x ≤ 9223372036854775807) :
    Calls Tryd.prog 6 #[.slice ao xs.length ca, .slice bo ys.length cb0] w fun e w' => e = .returned (.bool true) ∧ New w w' := by
  obtain ⟨K, hK⟩ : ∃ K, xs.length = K := ⟨_, rfl⟩
  obtain ⟨L, hL⟩ : ∃ L, ys.length = L := ⟨_, rfl⟩
  rw [hK] at hml ⊢
  rw [hL] at hmy ⊢
  have HG := Lib.hid hg
  have HC := Lib.hid hc
  have HD := Lib.hid hd
  have HK := Lib.hid hK
  have HL := Lib.hid hL
  have HXB := Lib.hid hxb
  have HYB := Lib.hid hyb
  clear hg hc hd hK hL hxb hyb
  go_enter Tryd.func6, Tryd.ntmps6
  go_wp2_with fail
  refine (room_any w).mono ?_
  rintro e w1 ⟨ab, mb, cb, wb, rfl, r1⟩
  have R1 := Lib.hid r1
  clear r1
  go_upto_block 0 with fail
  go_cut [7] (fun i wx => ∃ l : List Bk, l.length ≤ 40 ∧ Rm w wx ab mb cb wb 0 100 l 100)
  case first => as_aux_lemma =>
    go_wp2_with fail
    go_loopw [7] (fun i wr => ∃ (k : Nat) (l : List Bk), k ≤ K ∧ k ≤ 40 ∧ l.length ≤ k ∧ i = .int .i64 k ∧ Rm w wr ab mb cb wb 0 100 l 100) (fun i _ => K - (intOf i).toNat)
    case atStart => exact ⟨0, [], by omega, by omega, by simp, rfl, R1.out⟩
    case round =>
      clear R1
      obtain ⟨k, l, hk, hk4, hl, rfl, rk⟩ := hrel
      have RK := Lib.hid rk
      clear rk
      by_cases hend : k < K ∧ k < 40
      · obtain ⟨hlt, hlt4⟩ := hend
        obtain ⟨s, hs⟩ : ∃ s, xs[k]? = some s := ⟨xs[k]'(by rw [HK.out]; exact hlt), by simp⟩
        obtain ⟨g, off, rfl, hg1, c0⟩ := HC.out.keep RK.out.n k s hs
        have hsb := HXB.out s (List.mem_of_getElem? hs)
        have q1 : (0 : Int) ≤ (k : Int) := by omega
        have q2 : (k : Int) < (K : Int) := by omega
        obtain ⟨V, hV⟩ : ∃ V, s.tmod 40 = V := ⟨_, rfl⟩
        have hV1 : -40 < V := by rw [← hV]; exact Int.lt_tmod_of_pos s (by omega)
        have hV2 : V < 40 := by rw [← hV]; exact Int.tmod_lt_of_pos s (by omega)
        have tV : IntKind.i64.wrap V = V := IntWalk.i64_in _ (by omega)
        obtain ⟨r, hr⟩ : ∃ r, k % 2 = r := ⟨_, rfl⟩
        have hr2 : r < 2 := by omega
        have tr : (k : Int).tmod 2 = (r : Int) := by rw [← hr]; rfl
        have HS := Lib.hid hs
        clear hs hr
        obtain ⟨Wd, hWd⟩ : ∃ Wd : Int, (if r = 0 then 64 else 32) = Wd := ⟨_, rfl⟩
        have tr2 : r = 0 ∧ Wd = 64 ∨ r = 1 ∧ Wd = 32 := by
          rcases (show r = 0 ∨ r = 1 by omega) with rfl | rfl
          · exact .inl ⟨rfl, by simp at hWd; omega⟩
          · exact .inr ⟨rfl, by simp at hWd; omega⟩
        clear hWd hr2
        go_upto_region 7 with fail
        go_cut [41] (fun r wx => ∃ l' : List Bk, l'.length ≤ k + 1 ∧ Rm w wx ab mb cb wb 0 100 l' 100)
        case first => as_aux_lemma =>
          rcases tr2 with ⟨rfl, rfl⟩ | ⟨rfl, rfl⟩
          all_goals
            have s0 : wr.drew.cell? ⟨g, off + k, none⟩ = some (.int .i64 s) := c0
            have R0 := Lib.hid (RK.out.new ((Fr.refl _ _).drew))
            have hg0 : g < wr.drew.heap.size := hg1
            refine heldStart (fun wz => wz.cell? ⟨g, off + k, none⟩ = some (.int .i64 s)) (by kernel_rfl) ?_
            clear c0 RK hg1
            generalize wr.drew = V0 at s0 R0 hg0 ⊢
            refine wpAnyH_take (i := 0) (v := ?_) rfl (by kernel_rfl) (by kernel_rfl) (by kernel_rfl) (fun _ _ _ h => h) (Or.inl ⟨by rfl, ?_⟩) s0 ?_
            rotate_left
            · intro w hSw; first | (obtain ⟨s1, s2, s3, s4, s5, s6, s7, s8⟩ := hSw; go_simp; rfl) | (obtain ⟨s1, s2, s3, s4, s5, s6, s7⟩ := hSw; go_simp; rfl) | (obtain ⟨s1, s2, s3⟩ := hSw; go_simp; rfl) | (obtain ⟨s1, s2⟩ := hSw; go_simp; rfl) | (have s1 := hSw; go_simp; rfl)
            go_simp
            refine wpAnyH_take (i := 1) (v := ?_) rfl (by kernel_rfl) (by kernel_rfl) (by kernel_rfl) (fun _ _ _ h => h) (Or.inl ⟨by rfl, ?_⟩) s0 ?_
            rotate_left
            · intro w hSw; first | (obtain ⟨s1, s2, s3, s4, s5, s6, s7, s8⟩ := hSw; go_simp; rfl) | (obtain ⟨s1, s2, s3, s4, s5, s6, s7⟩ := hSw; go_simp; rfl) | (obtain ⟨s1, s2, s3⟩ := hSw; go_simp; rfl) | (obtain ⟨s1, s2⟩ := hSw; go_simp; rfl) | (have s1 := hSw; go_simp; rfl)
            go_simp
            refine wpAnyH_take (i := 2) (v := ?_) rfl (by kernel_rfl) (by kernel_rfl) (by kernel_rfl) (fun _ _ _ h => h) (Or.inl ⟨by rfl, ?_⟩) s0 ?_
            rotate_left
            · intro w hSw; first | (obtain ⟨s1, s2, s3, s4, s5, s6, s7, s8⟩ := hSw; go_simp; rfl) | (obtain ⟨s1, s2, s3, s4, s5, s6, s7⟩ := hSw; go_simp; rfl) | (obtain ⟨s1, s2, s3⟩ := hSw; go_simp; rfl) | (obtain ⟨s1, s2⟩ := hSw; go_simp; rfl) | (have s1 := hSw; go_simp; rfl)
            go_simp
            refine wpAnyH_take (i := 3) (v := ?_) rfl (by kernel_rfl) (by kernel_rfl) (by kernel_rfl) (fun _ _ _ h => h) (Or.inl ⟨by rfl, ?_⟩) s0 ?_
            rotate_left
            · intro w hSw; first | (obtain ⟨s1, s2, s3, s4, s5, s6, s7, s8⟩ := hSw; go_simp; rfl) | (obtain ⟨s1, s2, s3, s4, s5, s6, s7⟩ := hSw; go_simp; rfl) | (obtain ⟨s1, s2, s3⟩ := hSw; go_simp; rfl) | (obtain ⟨s1, s2⟩ := hSw; go_simp; rfl) | (have s1 := hSw; go_simp; rfl)
            go_simp
            refine wpAnyH_take (i := 4) (v := ?_) rfl (by kernel_rfl) (by kernel_rfl) (by kernel_rfl) (fun _ _ _ h => h) (Or.inl ⟨by rfl, ?_⟩) s0 ?_
            rotate_left
            · intro w hSw; first | (obtain ⟨s1, s2, s3, s4, s5, s6, s7, s8⟩ := hSw; go_simp; rfl) | (obtain ⟨s1, s2, s3, s4, s5, s6, s7⟩ := hSw; go_simp; rfl) | (obtain ⟨s1, s2, s3⟩ := hSw; go_simp; rfl) | (obtain ⟨s1, s2⟩ := hSw; go_simp; rfl) | (have s1 := hSw; go_simp; rfl)
            go_simp
            refine wpAnyH_take (i := 5) (v := ?_) rfl (by kernel_rfl) (by kernel_rfl) (by kernel_rfl) (fun _ _ _ h => h) (Or.inl ⟨by rfl, ?_⟩) s0 ?_
            rotate_left
            · intro w hSw; first | (obtain ⟨s1, s2, s3, s4, s5, s6, s7, s8⟩ := hSw; go_simp; rfl) | (obtain ⟨s1, s2, s3, s4, s5, s6, s7⟩ := hSw; go_simp; rfl) | (obtain ⟨s1, s2, s3⟩ := hSw; go_simp; rfl) | (obtain ⟨s1, s2⟩ := hSw; go_simp; rfl) | (have s1 := hSw; go_simp; rfl)
            go_simp
            refine wpAnyH_take (i := 7) (v := ?_) rfl (by kernel_rfl) (by kernel_rfl) (by kernel_rfl) (fun _ _ _ h => h) (Or.inl ⟨by rfl, ?_⟩) s0 ?_
            rotate_left
            · intro w hSw; first | (obtain ⟨s1, s2, s3, s4, s5, s6, s7, s8⟩ := hSw; go_simp; rfl) | (obtain ⟨s1, s2, s3, s4, s5, s6, s7⟩ := hSw; go_simp; rfl) | (obtain ⟨s1, s2, s3⟩ := hSw; go_simp; rfl) | (obtain ⟨s1, s2⟩ := hSw; go_simp; rfl) | (have s1 := hSw; go_simp; rfl)
            go_simp
            refine wpAnyH_take (i := 8) (v := ?_) rfl (by kernel_rfl) (by kernel_rfl) (by kernel_rfl) (fun _ _ _ h => h) (Or.inl ⟨by rfl, ?_⟩) s0 ?_
            rotate_left
            · intro w hSw; first | (obtain ⟨s1, s2, s3, s4, s5, s6, s7, s8⟩ := hSw; go_simp; rfl) | (obtain ⟨s1, s2, s3, s4, s5, s6, s7⟩ := hSw; go_simp; rfl) | (obtain ⟨s1, s2, s3⟩ := hSw; go_simp; rfl) | (obtain ⟨s1, s2⟩ := hSw; go_simp; rfl) | (have s1 := hSw; go_simp; rfl)
            go_simp
            refine heldOne (i := 6) (by kernel_rfl) rfl (by rfl) (fun K hK => ?_)
            go_simp
            have n1 : New V0 (V0.alloc (.cells #[.int .i64 64, .int .i64 32] 3)) := (Fr.refl _ _).alloc _
            have s1 := (n1.cell hg0 id (off + k)).trans s0
            have R1 := Lib.hid (R0.out.new n1)
            refine hK.out _ _ s1 ?_
            clear hK K R0 n1 s0 hg0
            refine wpAnyH_take (i := 9) (v := ?_) rfl (by kernel_rfl) (by kernel_rfl) (by kernel_rfl) (fun _ _ _ h => h) (Or.inl ⟨by rfl, ?_⟩) s1 ?_
            rotate_left
            · intro w hSw; first | (obtain ⟨s1, s2, s3, s4, s5, s6, s7, s8⟩ := hSw; go_simp; rfl) | (obtain ⟨s1, s2, s3, s4, s5, s6, s7⟩ := hSw; go_simp; rfl) | (obtain ⟨s1, s2, s3⟩ := hSw; go_simp; rfl) | (obtain ⟨s1, s2⟩ := hSw; go_simp; rfl) | (have s1 := hSw; go_simp; rfl)
            go_simp
            refine heldOne (i := 10) (by kernel_rfl) rfl (by rfl) (fun K hK => ?_)
            go_simp
            refine hK.out _ _ s1 ?_
            clear hK K
            refine heldOne (i := 11) (by kernel_rfl) rfl (by rfl) (fun K hK => ?_)
            go_simp
            refine (rm_get R1.out (by omega)).mono ?_
            rintro e w3 ⟨x, rfl, hx, r3, _⟩
            have s3 : w3.cell? ⟨g, off + k, none⟩ = some (.int .i64 s) := by
              obtain ⟨g', off', e', _, c'⟩ := HC.out.keep r3.n k s HS.out
              cases e'; exact c'
            have R3 := Lib.hid r3
            refine hK.out _ _ s3 ?_
            clear hK K r3 hx s1 R1
            refine wpAnyH_done (by kernel_rfl) ?_ _
            go_wp2_with fail
            go_meet
            exact ⟨_, Nat.le_trans (gL_len _ _ _ _ _) (by omega), R3.out⟩
        obtain ⟨l', hl', r'⟩ := hcut
        have R' := Lib.hid r'
        clear c0 r' RK HS tr2 tr tV hV
        by_cases hkl : k < L
        · obtain ⟨t, ht⟩ : ∃ s, ys[k]? = some s := ⟨ys[k]'(by rw [HL.out]; exact hkl), by simp⟩
          obtain ⟨g2, off2, rfl, hg2, c2⟩ := HD.out.keep R'.out.n k t ht
          have htb := HYB.out t (List.mem_of_getElem? ht)
          have q3 : (k : Int) < (L : Int) := by omega
          obtain ⟨V3, hV3⟩ : ∃ V, t.tmod 3 = V := ⟨_, rfl⟩
          have hV4 : -3 < V3 := by rw [← hV3]; exact Int.lt_tmod_of_pos t (by omega)
          have hV5 : V3 < 3 := by rw [← hV3]; exact Int.tmod_lt_of_pos t (by omega)
          have tV3 : IntKind.i64.wrap V3 = V3 := IntWalk.i64_in _ (by omega)
          obtain ⟨x, hx⟩ : ∃ x, (V3 == 0) = x := ⟨_, rfl⟩
          clear ht
          cases x with
          | true =>
            go_wp2_with fail
            refine (within_any t 100 _ (by omega) (by omega) htb.1 htb.2).mono ?_
            rintro e w4 ⟨rfl, rfl⟩
            clear c2 htb
            go_wp2_with fail
            refine (rm_put R'.out).mono ?_
            rintro e w5 ⟨y, rfl, hy, r5, _⟩
            have R5 := Lib.hid r5
            have hl5 := pL_len l' (t % 100)
            clear r5 hy
            go_wp2
            go_roundw
            case rel => exact ⟨k + 1, _, by omega, by omega, by omega, by go_num, R5.out⟩
            case measure => simp [intOf]; omega
          | false =>
            go_wp2
            go_roundw
            case rel => exact ⟨k + 1, _, by omega, by omega, by omega, by go_num, R'.out⟩
            case measure => simp [intOf]; omega
        · go_wp2
          go_roundw
          case rel => exact ⟨k + 1, _, by omega, by omega, by omega, by go_num, R'.out⟩
          case measure => simp [intOf]; omega
      · by_cases hkl : k < K
        all_goals
          go_wp2_with fail
          go_meet
          exact ⟨l, by omega, RK.out⟩
  obtain ⟨l, hl, rk⟩ := hcut
  obtain ⟨N, hN⟩ : ∃ N, l.length = N := ⟨_, rfl⟩
  obtain ⟨Ud, hUd⟩ : ∃ Ud, usedN l = Ud := ⟨_, rfl⟩
  have HN := Lib.hid hN
  have HU := Lib.hid hUd
  have HT := Lib.hid (show l.take 1000 = l from List.take_of_length_le (by omega))
  have RK := Lib.hid rk
  have HFIT := Lib.hid rk.fits
  have HWD := Lib.hid rk.widths
  have hub := rk.fits.used
  rw [hUd] at hub
  rw [hN] at hl
  clear rk hUd hN HC HD HXB HYB HK HL R1
  go_wp2_with fail
  refine (rm_blocks RK.out (most := 1000) (by omega) (by omega)).mono ?_
  rintro e w2 ⟨v2, rfl, ho2, hn⟩
  rw [HT.out, HN.out] at ho2
  obtain ⟨ao2, ca2, rfl, _⟩ := owned_form ho2
  have R2 := Lib.hid (RK.out.new hn)
  have HO2 := Lib.hid ho2
  clear hn ho2 RK
  go_wp2_with fail
  go_loopw [9, 10, 11] (fun e n i wz => ∃ j : Nat, j ≤ N ∧ i = .int .i64 j ∧ e = .int .i64 (endA 0 l j) ∧ n = .int .i64 (usedN (l.take j)) ∧ New w2 wz) (fun _ _ i _ => N - (intOf i).toNat)
  case atStart => exact ⟨0, by omega, rfl, rfl, rfl, Fr.refl _ _⟩
  case round =>
    obtain ⟨j, hj, rfl, rfl, rfl, hn⟩ := hrel
    by_cases hlt : j < N
    · obtain ⟨b, hb⟩ : ∃ b, l[j]? = some b := ⟨l[j]'(by rw [HN.out]; exact hlt), by simp⟩
      obtain ⟨g2, rfl, hg2, hc2⟩ := flat_at bC 3 bC_len HO2.out hb (by omega)
      have hin := HFIT.out.inn b (List.mem_of_getElem? hb)
      have hst : startA 100 l j = b.pos := by unfold startA; rw [hb]
      have hen := HFIT.out.end_ (i := j) (by rw [HN.out]; omega)
      have hgp := HFIT.out.ends hb
      have hU1 := usedN_take hb
      have hub1 := HFIT.out.usedPre (List.take_prefix j l)
      have hub2 := HFIT.out.usedPre (List.take_prefix (j + 1) l)
      have hE1 := endA_succ (F := 0) hb
      have hwd := HWD.out b (List.mem_of_getElem? hb)
      have HZ := Lib.hid (fun q : Nat => fun (h1 : endA 0 l j ≤ (q : Int)) (h2 : (q : Int) < b.pos) => gap_clear HFIT.out (i := j) (by rw [HN.out]; omega) (n := gapA 0 100 l j) (Int.le_refl _) (by unfold gapA; omega) h1 (by unfold gapA; omega))
      have HB := Lib.hid (fun q : Nat => fun (h1 : b.pos ≤ (q : Int)) (h2 : (q : Int) < b.pos + b.num) => cover_some HFIT.out (List.mem_of_getElem? hb) ⟨h1, h2⟩)
      generalize hE : endA 0 l j = E at hen hgp HZ ⊢
      generalize hS : usedN (l.take j) = S at hU1 hub1 ⊢
      have HX := Lib.hid (fun (wz : World) (f : New w2 wz) => show wz.cell? ⟨g2, j * 3, none⟩ = some (.int .i64 b.pos) ∧ wz.cell? ⟨g2, j * 3 + 1, none⟩ = some (.int .i64 b.num) ∧ wz.cell? ⟨g2, j * 3 + 2, none⟩ = some (.int .i64 b.wid) from
        ⟨(f.cell hg2 id _).trans (hc2 0 _ rfl), (f.cell hg2 id _).trans (hc2 1 _ rfl), (f.cell hg2 id _).trans (hc2 2 _ rfl)⟩)
      rw [hU1] at hub2
      have HE1 := Lib.hid hE1
      have HU1 := Lib.hid hU1
      generalize hP : b.pos = P at hin hgp HZ HB HX HE1
      generalize hC : b.num = C at hin hub2 HB HX HE1 HU1
      generalize hZ : b.wid = Z at hwd HB HX
      have q1 : (0 : Int) ≤ (j : Int) := by omega
      have q2 : (j : Int) < (N : Int) := by omega
      have t1 : ¬ P < E := by omega
      have t2 : ¬ C < 1 := by omega
      have t3 : ¬ (100 : Int) < P + C := by omega
      have t4 : IntKind.i64.wrap (P + C) = P + C := IntWalk.i64_in _ (by omega)
      have t5 : IntKind.i64.wrap (S + C) = S + C := IntWalk.i64_in _ (by omega)
      have HNW := Lib.hid hn
      obtain ⟨x0, x1, x2⟩ := HX.out wr hn
      clear hb hst hc2 hn hE hS hE1 hU1 hP hC hZ
      go_wp2_with fail
      go_quiet (fail)
      have HN3 := Lib.hid (HNW.out.drewN nq)
      clear x0 x1 x2
      generalize wr.drewN nq = w3 at HN3 ⊢
      go_wp2_with fail
      go_loopw [12] (fun k wz => ∃ q : Int, k = .int .i64 q ∧ E ≤ q ∧ q ≤ P ∧ New w2 wz) (fun k _ => (P - intOf k).toNat)
      case atStart => exact ⟨E, rfl, by omega, by omega, HN3.out⟩
      case round =>
        obtain ⟨q, rfl, hq1, hq2, hn⟩ := hrel
        obtain ⟨x0, x1, x2⟩ := HX.out wr hn
        have HNW := Lib.hid hn
        have RW := Lib.hid (R2.out.new hn)
        clear hn
        by_cases hqP : q < P
        · have hz := rm_width RW.out (p := q.toNat) (by omega)
          rw [HZ.out q.toNat (by omega) (by omega), Int.toNat_of_nonneg (by omega)] at hz
          have HZ1 := Lib.hid hz
          have t6 : IntKind.u64.wrap q = q := IntWalk.u64_in _ (by omega)
          clear hz
          go_wp2_with fail
          refine HZ1.out.mono ?_
          rintro e w4 ⟨rfl, rfl⟩
          go_wp2
          go_roundw
          case rel => exact ⟨q + 1, by go_num, by omega, by omega, HNW.out⟩
          case measure => simp [intOf]; omega
        · obtain rfl : q = P := by omega
          clear x0 x1 x2 RW HN3
          obtain ⟨x0, x1, x2⟩ := HX.out wr HNW.out
          go_wp2_with fail
          go_loopw [13] (fun k wz => ∃ p : Int, k = .int .i64 p ∧ q ≤ p ∧ p ≤ q + C ∧ New w2 wz) (fun k _ => (q + C - intOf k).toNat)
          case atStart => exact ⟨q, rfl, by omega, by omega, HNW.out⟩
          case round =>
            clear x0 x1 x2
            obtain ⟨p, rfl, hp1, hp2, hn⟩ := hrel
            obtain ⟨x0, x1, x2⟩ := HX.out wr hn
            have HNW := Lib.hid hn
            have RW := Lib.hid (R2.out.new hn)
            clear hn
            by_cases hqP : p < q + C
            · have hz := fun n => rm_width (RW.out.new ((Fr.refl _ _).drewN n)) (p := p.toNat) (by omega)
              rw [HB.out p.toNat (by omega) (by omega), Int.toNat_of_nonneg (show 0 ≤ p by omega), Int.toNat_of_nonneg (show 0 ≤ Z by omega)] at hz
              have t6 : IntKind.u64.wrap p = p := IntWalk.u64_in _ (by omega)
              have t7 : (Z != Z) = false := by simp
              go_wp2_with fail
              go_quiet (fail)
              have HZ1 := Lib.hid (fun n m => show Calls Tryd.prog 22 #[.pointer (some ⟨mb, 0, none⟩), .int .u64 p] ((wr.drewN n).drewN m) fun e w' => e = .returned (.int .i64 Z) ∧ w' = (wr.drewN n).drewN m from by rw [World.drewN_drewN]; exact (hz _).mono (fun _ _ h => ⟨h.1, h.2.symm⟩))
              have HN5 := Lib.hid (HNW.out.drewN nq)
              have HZ2 := Lib.hid (HZ1.out nq)
              clear x0 x1 x2 hz HZ1
              obtain ⟨x0, x1, x2⟩ := HX.out _ HN5.out
              generalize wr.drewN nq = w5 at HN5 HZ2 x0 x1 x2 ⊢
              go_wp2_with fail
              go_quiet (refine Calls.quiet_of_same (HZ2.out _))
              go_wp2
              go_roundw
              case rel => exact ⟨p + 1, by go_num, by omega, by omega, HN5.out.drewN nq⟩
              case measure => simp [intOf]; omega
            · obtain rfl : p = q + C := by omega
              go_wp2_with fail
              go_quiet (fail)
              have HN5 := Lib.hid (HNW.out.drewN nq)
              clear x0 x1 x2
              obtain ⟨x0, x1, x2⟩ := HX.out _ HN5.out
              generalize wr.drewN nq = w5 at HN5 x0 x1 x2 ⊢
              go_wp2_with fail
              go_quiet (fail)
              have HN6 := Lib.hid (HN5.out.drewN nq)
              clear x0 x1 x2
              obtain ⟨x0, x1, x2⟩ := HX.out _ HN6.out
              generalize w5.drewN nq = w6 at HN6 x0 x1 x2 ⊢
              go_wp2_with fail
              go_roundw
              case rel => exact ⟨j + 1, by omega, by go_num, by rw [HE1.out], by rw [HU1.out], HN6.out⟩
              case measure => simp [intOf]; omega
    · obtain rfl : j = N := by omega
      have hS : usedN (l.take j) = Ud := by rw [List.take_of_length_le (by rw [HN.out]; exact Nat.le_refl _)]; exact HU.out
      rw [hS]
      have tU : (Ud == Ud) = true := by simp
      have R4 := Lib.hid (R2.out.new hn)
      clear hn hS
      generalize endA 0 l j = E
      go_wp2_with fail
      refine (rm_used R4.out HU.out).mono ?_
      rintro e w4 ⟨rfl, hn⟩
      have R5 := Lib.hid (R4.out.new hn)
      clear hn R4
      go_wp2_with fail
      refine (rm_there R5.out HU.out).mono ?_
      rintro e w5 ⟨rfl, rfl⟩
      go_wp2_with fail
      refine (awake_any _ (laid_rm HG.out R5.out)).mono ?_
      rintro e w6 ⟨rfl, hn⟩
      go_wp2
      go_ret
      exact ⟨rfl, R5.out.n.trans hn⟩

end Go.Proofs.YtlmjogfjhngcoaaDoor
