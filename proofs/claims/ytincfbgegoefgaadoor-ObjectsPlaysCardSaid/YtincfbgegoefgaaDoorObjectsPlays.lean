/- Whatever is made, found and goes: answers and all handles are what the document says: the statement's walk. -/
import Derived.Test.YtincfbgegoefgaaDoorObjN
import Derived.Test.YtincfbgegoefgaaDoorRecs
import Derived.Test.YtincfbgegoefgaaDoorDoorP
import Derived.Deep.DeepCutAuto
import Derived.Deep.CutBlock
namespace Go.Proofs.YtincfbgegoefgaaDoor
open Go.RowKit

theorem op_at {w : World} {ao : Option Addr} {rs : List (List Int)} {k : Nat} (h : Recs [.i64, .i64, .i64, .u64, .u64] w ao rs) (hf : ∀ r ∈ rs, RecOk [.i64, .i64, .i64, .u64, .u64] r) (hk : k < rs.length) :
    ∃ (d who kd : Int) (u a g off : Nat), ao = some ⟨g, off, none⟩ ∧ g < w.heap.size ∧ u < 18446744073709551616 ∧ a < 18446744073709551616 ∧ -9223372036854775808 ≤ d ∧ d ≤ 9223372036854775807 ∧ -9223372036854775808 ≤ who ∧ who ≤ 9223372036854775807 ∧
      w.cell? ⟨g, off + k * 5, none⟩ = some (.int .i64 d) ∧ w.cell? ⟨g, off + k * 5 + 1, none⟩ = some (.int .i64 who) ∧ w.cell? ⟨g, off + k * 5 + 2, none⟩ = some (.int .i64 kd) ∧ w.cell? ⟨g, off + k * 5 + 3, none⟩ = some (.int .u64 u) ∧ w.cell? ⟨g, off + k * 5 + 4, none⟩ = some (.int .u64 a) := by
  have hr : rs[k]? = some rs[k] := by simp [hk]
  obtain ⟨hl, hz⟩ := hf rs[k] (List.getElem_mem hk)
  generalize rs[k] = r at hr hl hz
  obtain ⟨g, off, e, hg, hc⟩ := h k r hr
  match r, hl with
  | [d, O, D, U, A], _ =>
    have b0 := bounds_i64 (hz 0 _ .i64 rfl rfl)
    have b1 := bounds_i64 (hz 1 _ .i64 rfl rfl)
    have b3 := bounds_u64 (hz 3 _ .u64 rfl rfl)
    have b4 := bounds_u64 (hz 4 _ .u64 rfl rfl)
    obtain ⟨U, rfl⟩ := Int.eq_ofNat_of_zero_le b3.1
    obtain ⟨A, rfl⟩ := Int.eq_ofNat_of_zero_le b4.1
    exact ⟨d, O, D, U, A, g, off, e, hg, by omega, by omega, by omega, by omega, by omega, by omega, hc 0 _ _ rfl rfl, hc 1 _ _ rfl rfl, hc 2 _ _ rfl rfl, hc 3 _ _ rfl rfl, hc 4 _ _ rfl rfl⟩

/-- Both, side by side, behind j calls: w0 is the world ahead of them. -/
structure StO (w0 w : World) (b rb b2 lb tb : Nat) (l : List Row) (j : Nat) : Prop where
  p : ObjRep w b rb l
  d : DocO w b2 lb tb l
  pl : Placed l
  tk : Taken l j
  ap : b ≠ lb ∧ b ≠ tb ∧ rb ≠ b2 ∧ rb ≠ lb ∧ rb ≠ tb
  fr : w0.heap.size ≤ rb ∧ w0.heap.size ≤ lb ∧ w0.heap.size ≤ tb
  n : New w0 w
section
variable {w0 w w' : World} {b rb b2 lb tb j : Nat} {l l' : List Row}
theorem StO.new (h : StO w0 w b rb b2 lb tb l j) (f : New w w') : StO w0 w' b rb b2 lb tb l j := ⟨h.p.keep f id id, h.d.new f, h.pl, h.tk, h.ap, h.fr, h.n.trans f⟩
theorem StO.up (h : StO w0 w b rb b2 lb tb l j) : StO w0 w b rb b2 lb tb l (j + 1) := ⟨h.p, h.d, h.pl, fun r hr => Nat.le_succ_of_le (h.tk r hr), h.ap, h.fr, h.n⟩
theorem StO.lt999 (h : StO w0 w b rb b2 lb tb l j) (hj : j ≤ 200) : ∀ r ∈ l, r.times < 999999 := fun r hr => by have := h.tk r hr; omega
/-- The document's part behind the program's call. -/
theorem StO.mid (h : StO w0 w b rb b2 lb tb l j) (f : Fr (· = rb) w w') : DocO w' b2 lb tb l := h.d.keep f (Ne.symm h.ap.2.2.1) (Ne.symm h.ap.2.2.2.1) (Ne.symm h.ap.2.2.2.2)
theorem StO.both {w2 : World} {P : Prop} {j' : Nat} (h : StO w0 w b rb b2 lb tb l j) (hp : ObjRep w' b rb l') (f : Fr (· = rb) w w') (hd : DocO w2 b2 lb tb l') (f2 : Fr (fun k => P ∧ (k = lb ∨ k = tb)) w' w2) (hpl : Placed l') (htk : Taken l' j') : StO w0 w2 b rb b2 lb tb l' j' := by
  obtain ⟨a1, a2, a3, a4, a5⟩ := h.ap
  refine ⟨hp.keep f2 (fun e => ?_) (fun e => ?_), hd, hpl, htk, h.ap, h.fr, (h.n.then f (fun i hi e => ?_)).then f2 (fun i hi e => ?_)⟩
  · rcases e.2 with e | e
    · exact a1 e
    · exact a2 e
  · rcases e.2 with e | e
    · exact a4 e
    · exact a5 e
  · subst e; exact absurd hi (by have := h.fr.1; omega)
  · rcases e.2 with rfl | rfl
    · exact absurd hi (by have := h.fr.2.1; omega)
    · exact absurd hi (by have := h.fr.2.2; omega)
end
def PlayO (w0 : World) (b rb b2 lb tb j : Nat) (w : World) : Prop := ∃ l, StO w0 w b rb b2 lb tb l j

theorem mk_len (l : List Row) (k : Int) (a : Nat) : (mkL l k a).length = l.length := by
  unfold mkL
  split
  · rfl
  · split
    · simp
    · rfl

set_option maxRecDepth 100000 in
set_option maxHeartbeats 8000000 in
theorem plays_walk (m : Int) (rs : List (List Int)) (ao : Option Addr) (ca : Nat) (w : World) (hg : Laid w) (hb : -9223372036854775808 ≤ m ∧ m ≤ 9223372036854775807) (hfit : ∀ r ∈ rs, RecOk [.i64, .i64, .i64, .u64, .u64] r) (hc : Recs [.i64, .i64, .i64, .u64, .u64] w ao rs) (hml : rs.length ≤ 9223372036854775807) :
    Calls Tryd.prog 4 #[.int .i64 m, .slice ao rs.length ca] w fun e w' => e = .returned (.bool true) ∧ New w w' := by
  obtain ⟨K, hK⟩ : ∃ K, rs.length = K := ⟨_, rfl⟩
  rw [hK] at hml ⊢
  obtain ⟨q, hq, hq5⟩ := within_nat m 6 (by omega)
  have hwd := within_any m 6 w (by omega) (by omega) (by omega) (by omega)
  rw [hq] at hwd
  have HG := Lib.hid hg
  have HC := Lib.hid hc
  have HFIT := Lib.hid hfit
  have HK := Lib.hid hK
  have HWD := Lib.hid hwd
  clear hg hc hfit hK hwd hq
  go_enter Tryd.func4, Tryd.ntmps4
  go_wp2_with fail
  refine HWD.out.mono ?_
  rintro e w1 ⟨rfl, rfl⟩
  clear HWD
  go_wp2_with fail
  try rw [show (1 : Int) + (q : Int) = ((q + 1 : Nat) : Int) by omega]
  obtain ⟨n, hn⟩ : ∃ n, q + 1 = n := ⟨_, rfl⟩
  rw [hn]
  have hn1 : 1 ≤ n := by omega
  have hn2 : n ≤ 64 := by omega
  clear hn hq5
  refine (new_any n _ hn1 hn2).mono ?_
  rintro e w1 ⟨b, rb, rfl, hb1, hrb1, hr, hnw1⟩
  have HR := Lib.hid hr
  have HN := Lib.hid hnw1
  clear hr hnw1
  go_wp2_with fail
  refine (rnew_any n _ hn1 hn2).mono ?_
  rintro e w2 ⟨b2, lb, tb, rfl, hb2, hlb2, htb2, hd, hnw2⟩
  have HP := Lib.hid (show PlayO w b rb b2 lb tb 0 w2 from ⟨_, HR.out.keep hnw2 id id, hd, (fun p r hr h0 => by
      obtain rfl := List.eq_of_mem_replicate (List.mem_of_getElem? hr)
      exact absurd rfl h0), (fun r hr => by obtain rfl := List.eq_of_mem_replicate hr; exact Nat.le_refl _), (by have := HR.out.hd.lt; have := HR.out.rows.lt; omega), (by have := HN.out.size; omega), HN.out.trans hnw2⟩)
  clear HR HN hd hnw2 hb1 hrb1 hb2 hlb2 htb2
  go_wp2_with fail
  go_loopw [10] (fun i wr => ∃ k : Nat, k ≤ K ∧ k ≤ 100 ∧ i = .int .i64 k ∧ PlayO w b rb b2 lb tb k wr) (fun i _ => K - (intOf i).toNat)
  case atStart => exact ⟨0, by omega, by omega, rfl, HP.out⟩
  case round =>
    clear HP
    obtain ⟨k, hk, hk3, rfl, l, hpl⟩ := hrel
    have HP := Lib.hid hpl
    clear hpl
    by_cases hend : k < K ∧ k < 100
    · obtain ⟨hlt, hlt3⟩ := hend
      obtain ⟨d, who, kd, u, a, g, off, rfl, hg1, hu, ha, hd1, hd2, ho1, ho2, c0, c1, c2, c3, c4⟩ := op_at (HC.out.keep HP.out.n) HFIT.out (by rw [HK.out]; exact hlt)
      go_wp2_with fail
      obtain ⟨W0, hW0⟩ : ∃ W0, wr.alloc (.cells #[.int .i64 d, .int .i64 who, .int .i64 kd, .int .u64 u, .int .u64 a] 43) = W0 := ⟨_, rfl⟩
      have hx0 : Arr W0 wr.heap.size [.int .i64 d, .int .i64 who, .int .i64 kd, .int .u64 u, .int .u64 a] := by rw [← hW0]; exact Arr.new _ _ _
      have hn0 : New wr W0 := by rw [← hW0]; exact (Fr.refl _ _).alloc _
      rw [hW0]
      have hrx : rb < wr.heap.size ∧ lb < wr.heap.size ∧ tb < wr.heap.size := ⟨HP.out.p.rows.lt, HP.out.d.rows.lt, HP.out.d.times.lt⟩
      have HX := Lib.hid hx0
      have HP0 := Lib.hid (HP.out.new hn0)
      obtain ⟨xb, hxb⟩ : ∃ xb, wr.heap.size = xb := ⟨_, rfl⟩
      rw [hxb] at HX hrx ⊢
      clear hW0 hx0 hn0 hxb c0 c1 c2 c3 c4 HP
      refine (rall_any b2 lb tb l W0 HP0.out.d).mono ?_
      rintro e w1 ⟨vl, rfl, hown, hn1⟩
      have hX1 := HX.out.keep hn1 id
      have HP1 := Lib.hid (HP0.out.new hn1)
      obtain ⟨al, cl, rfl, _⟩ := owned_form hown
      have hlive := live_le l
      have hl64 := HP0.out.d.len
      have hcl := doc_cap hown
      have hat := fun (p : Nat) (r : Row) (h : (live l)[p]? = some r) => flat_at oC 3 oC_len hown h (by omega)
      have HAT := Lib.hid hat
      obtain ⟨N, hN⟩ : ∃ N, (live l).length = N := ⟨_, rfl⟩
      rw [hN] at hlive hcl ⊢
      have HNN := Lib.hid hN
      have HX1 := Lib.hid hX1
      have hU : ∀ r ∈ l, r.handle < 18446744073709551616 := fun r hr => by
        obtain ⟨p, hp⟩ := List.mem_iff_getElem?.1 hr
        by_cases h0 : r.handle = 0
        · omega
        · exact (HP0.out.pl p r hp h0).1
      have HU := Lib.hid hU
      have x1 : w1.cell? ⟨xb, 1, none⟩ = some (.int .i64 who) := HX1.out.cell 1 _ rfl
      clear hown hn1 hat hN HP0 HX hX1 hU
      go_upto_region 12 with fail
      go_cut [67] (fun s wx => ∃ y : Bool, s = .bool y ∧ (y = true → 0 ≤ who ∧ 0 < N) ∧ w1 = wx)
      case first => as_aux_lemma =>
        by_cases hw1 : 0 ≤ who
        · by_cases hw2 : 0 < N
          · go_wp2_with fail
            go_meet
            case rel => exact ⟨true, rfl, fun _ => ⟨hw1, hw2⟩, rfl⟩
          · have hw3 : ¬ ((0 : Int) < (N : Int)) := by omega
            go_wp2_with fail
            go_meet
            case rel => exact ⟨false, rfl, fun h => Bool.noConfusion h, rfl⟩
        · go_wp2_with fail
          go_meet
          case rel => exact ⟨false, rfl, fun h => Bool.noConfusion h, rfl⟩
      obtain ⟨y, rfl, hy, rfl⟩ := hcut
      go_upto_if 67 with fail
      go_cut [12] (fun s wx => ∃ h : Nat, s = .int .u64 h ∧ h < 18446744073709551616 ∧ w1 = wx)
      case first => as_aux_lemma =>
        cases y with
        | false =>
          go_wp2_with fail
          go_meet
          case rel => exact ⟨u, rfl, hu, rfl⟩
        | true =>
          obtain ⟨hw1, hw2⟩ := hy rfl
          have hm1 : 0 ≤ who.tmod N := Int.tmod_nonneg _ hw1
          have hm2 : who.tmod N < N := Int.tmod_lt_of_pos _ (by omega)
          obtain ⟨p, hp⟩ := Int.eq_ofNat_of_zero_le hm1
          rw [hp] at hm2
          obtain ⟨r, hr⟩ : ∃ r, (live l)[p]? = some r := ⟨(live l)[p]'(by rw [HNN.out]; omega), by simp⟩
          obtain ⟨g2, rfl, hg2, e2⟩ := HAT.out p r hr
          have y0 : w1.cell? ⟨g2, p * 3, none⟩ = some (.int .u64 r.handle) := e2 0 _ rfl
          have hru := HU.out r (List.mem_filter.1 (List.mem_of_getElem? hr)).1
          have q1 : (0 : Int) ≤ (p : Int) := by omega
          have q2 : (p : Int) < (cl : Int) := by omega
          have q3 : ¬ (N : Int) = 0 := by omega
          clear e2 hr hm1 hy
          go_wp2_with fail
          go_meet
          case rel => exact ⟨r.handle, rfl, hru, rfl⟩
      obtain ⟨h, rfl, hh, rfl⟩ := hcut
      clear HAT HNN HU hlive hcl
      have x0 : w1.cell? ⟨xb, 0, none⟩ = some (.int .i64 d) := HX1.out.cell 0 _ rfl
      go_wp2_with fail
      obtain ⟨q, hq, hq5⟩ := within_nat d 7 (by omega)
      have HQ := Lib.hid hq
      clear hq
      refine (within_any d 7 _ (by omega) (by omega) (by omega) (by omega)).mono ?_
      rintro e w' ⟨rfl, rfl⟩
      rw [HQ.out]
      clear HQ x0
      go_upto_block 2 with fail
      go_cut [14] (fun s wx => s = .bool true ∧ ∃ l2, StO w wx b rb b2 lb tb l2 (k + 1))
      case first => as_aux_lemma =>
        rcases (show (q = 0 ∨ q = 1 ∨ q = 2) ∨ q = 3 ∨ (q = 4 ∨ q = 5) ∨ q = 6 by omega) with hq | rfl | hq | rfl
        · have e3 : ((q : Int) == 3) = false := by rw [beq_eq_false_iff_ne]; omega
          have e4 : ((q : Int) == 4) = false := by rw [beq_eq_false_iff_ne]; omega
          have e5 : ((q : Int) == 5) = false := by rw [beq_eq_false_iff_ne]; omega
          have e6 : ((q : Int) == 6) = false := by rw [beq_eq_false_iff_ne]; omega
          clear hq
          have hlt9 := HP1.out.lt999 (by omega)
          have x2 : w1.cell? ⟨xb, 2, none⟩ = some (.int .i64 kd) := HX1.out.cell 2 _ rfl
          have x4 : w1.cell? ⟨xb, 4, none⟩ = some (.int .u64 a) := HX1.out.cell 4 _ rfl
          have hpc := pmake_any (k := kd) (a := a) HP1.out.p hlt9
          have hdc := fun w2 (h2 : DocO w2 b2 lb tb l) => rmake_any (k := kd) (a := a) h2 hlt9
          have hpl2 : Placed (mkL l kd a) := Placed.mk HP1.out.pl HP1.out.tk (by omega) HP1.out.d.len kd a
          have htk2 : Taken (mkL l kd a) (k + 1) := Taken.mk HP1.out.tk kd a
          generalize mkH l kd = z at hpc hdc
          generalize mkE l kd = oe at hpc hdc
          generalize mkL l kd a = l2 at hpc hdc hpl2 htk2
          have t0 : ((z : Int) == (z : Int)) = true := by simp
          have HPC := Lib.hid hpc
          have HDC := Lib.hid hdc
          have HPL := Lib.hid hpl2
          have HTK := Lib.hid htk2
          clear hpc hdc hpl2 htk2 hlt9
          go_wp2_with fail
          refine HPC.out.mono ?_
          rintro e w3 ⟨x, rfl, hx, hr3, f3⟩
          have y2 : w3.cell? ⟨xb, 2, none⟩ = some (.int .i64 kd) := (f3.cell HX1.out.lt (by omega) _).trans x2
          have y4 : w3.cell? ⟨xb, 4, none⟩ = some (.int .u64 a) := (f3.cell HX1.out.lt (by omega) _).trans x4
          have HD3 := Lib.hid (HP1.out.mid f3)
          have HR3 := Lib.hid hr3
          have F3 := Lib.hid f3
          have HS3 := Lib.hid hx
          clear hx hr3 f3 x2 x4
          go_wp2_with fail
          refine (HDC.out w3 HD3.out).mono ?_
          rintro e w4 ⟨f, rfl, hfl, hd4, f4⟩
          have hx4 := Says.keepIf f4 HS3.out
          have G4 := Lib.hid (HP1.out.both HR3.out F3.out hd4 f4 HPL.out HTK.out)
          have HSM := Lib.hid (same_says x f objL _ w4 (HG.out.keep G4.out.n id) hx4 hfl)
          clear y2 y4 HD3 HR3 F3 HS3 hfl hd4 f4 hx4
          go_wp2_with fail
          refine HSM.out.mono ?_
          rintro e w5 ⟨rfl, hn5⟩
          have G5 := Lib.hid (G4.out.new hn5)
          clear hn5
          go_wp2_with fail
          go_meet
          case rel => exact ⟨rfl, _, G5.out⟩
        · rw [show ((3 : Nat) : Int) = 3 from rfl]
          have x2 : w1.cell? ⟨xb, 2, none⟩ = some (.int .i64 kd) := HX1.out.cell 2 _ rfl
          have hpc := pfind_any (k := kd) HP1.out.p hh
          have hdc := fun w2 (h2 : DocO w2 b2 lb tb l) => rfindO_any (k := kd) h2 HP1.out.pl hh
          generalize fdA l h kd = z at hpc hdc
          generalize fdE l h kd = oe at hpc hdc
          have t0 : ((z : Int) == (z : Int)) = true := by simp
          have HPC := Lib.hid hpc
          have HDC := Lib.hid hdc
          clear hpc hdc
          go_wp2_with fail
          refine HPC.out.mono ?_
          rintro e w3 ⟨x, rfl, hx, hn3⟩
          have y2 : w3.cell? ⟨xb, 2, none⟩ = some (.int .i64 kd) := (hn3.cell HX1.out.lt id _).trans x2
          have G3 := Lib.hid (HP1.out.new hn3)
          have HS3 := Lib.hid hx
          clear hx hn3 x2
          go_wp2_with fail
          refine (HDC.out w3 G3.out.d).mono ?_
          rintro e w4 ⟨f, rfl, hfl, hn4⟩
          have hx4 := Says.new hn4 HS3.out
          have G4 := Lib.hid (G3.out.new hn4)
          have HSM := Lib.hid (same_says x f objL _ w4 (HG.out.keep G4.out.n id) hx4 hfl)
          clear y2 HS3 hfl hn4 hx4
          go_wp2_with fail
          refine HSM.out.mono ?_
          rintro e w5 ⟨rfl, hn5⟩
          have G5 := Lib.hid (G4.out.new hn5)
          clear hn5
          go_wp2_with fail
          go_meet
          case rel => exact ⟨rfl, _, G5.out.up⟩
        · have e3 : ((q : Int) == 3) = false := by rw [beq_eq_false_iff_ne]; omega
          have hqq : ((q : Int) == 4) = true ∨ (((q : Int) == 4) = false ∧ ((q : Int) == 5) = true) := by
            rcases hq with rfl | rfl
            · exact .inl rfl
            · exact .inr ⟨rfl, rfl⟩
          clear hq
          have hpc := pgone_any HP1.out.p hh
          have hdc := fun w2 (h2 : DocO w2 b2 lb tb l) => rgone_any h2 HP1.out.pl hh
          have hpl2 : Placed (gnL l h) := Placed.gn HP1.out.pl h
          have htk2 : Taken (gnL l h) k := Taken.gn HP1.out.tk h
          generalize gnE l h = oe at hpc hdc
          generalize gnL l h = l2 at hpc hdc hpl2 htk2
          have HPC := Lib.hid hpc
          have HDC := Lib.hid hdc
          have HPL := Lib.hid hpl2
          have HTK := Lib.hid htk2
          clear hpc hdc hpl2 htk2
          rcases hqq with e4 | ⟨e4, e5⟩
          all_goals
            go_wp2_with fail
            refine HPC.out.mono ?_
            rintro e w3 ⟨x, rfl, hx, hr3, f3⟩
            have HD3 := Lib.hid (HP1.out.mid f3)
            have HR3 := Lib.hid hr3
            have F3 := Lib.hid f3
            have HS3 := Lib.hid hx
            clear hx hr3 f3
            go_wp2_with fail
            refine (HDC.out w3 HD3.out).mono ?_
            rintro e w4 ⟨f, rfl, hfl, hd4, f4⟩
            have hx4 := Says.keepIf f4 HS3.out
            have G4 := Lib.hid (HP1.out.both HR3.out F3.out hd4 f4 HPL.out HTK.out)
            have HSM := Lib.hid (same_says x f objL _ w4 (HG.out.keep G4.out.n id) hx4 hfl)
            clear HD3 HR3 F3 HS3 hfl hd4 f4 hx4
            go_wp2_with fail
            refine HSM.out.mono ?_
            rintro e w5 ⟨rfl, hn5⟩
            have G5 := Lib.hid (G4.out.new hn5)
            clear hn5
            go_wp2_with fail
            go_meet
            case rel => exact ⟨rfl, _, G5.out.up⟩
        · rw [show ((6 : Nat) : Int) = 6 from rfl]
          have hpc := pkind_any HP1.out.p hh
          have hdc := rkind_any HP1.out.d HP1.out.pl hh
          generalize kdI l h = z at hpc hdc
          have t0 : (z == z) = true := by simp
          have HPC := Lib.hid hpc
          have HDC := Lib.hid hdc
          clear hpc hdc
          go_wp2_with fail
          refine HPC.out.mono ?_
          rintro e w3 ⟨rfl, rfl⟩
          go_wp2_with fail
          refine HDC.out.mono ?_
          rintro e w3 ⟨rfl, rfl⟩
          go_wp2_with fail
          go_meet
          case rel => exact ⟨rfl, _, HP1.out.up⟩
      clear HX1 HP1 x1 hh
      obtain ⟨rfl, l2, hst⟩ := hcut
      have hl2 := hst.d.len
      have hla := allL_any b rb l2 1000 wc hst.p (by omega) (by omega)
      have htl : (told l2).length = (live l2).length := by rw [told_live, List.length_map]
      have hlv := live_le l2
      rw [List.take_of_length_le (by omega)] at hla
      have hln := fun w2 (h2 : ObjRep w2 b rb l2) => len_any b rb l2 w2 h2
      rw [htl] at hla
      simp only [htl] at hln
      have HLA := Lib.hid hla
      have HLN := Lib.hid hln
      have HST := Lib.hid hst
      clear hla hln htl hst
      go_wp2_with fail
      refine HLA.out.mono ?_
      rintro e w3 ⟨v1, rfl, hw1, hn3⟩
      have HW1 := Lib.hid hw1
      have G3 := Lib.hid (HST.out.new hn3)
      clear hw1 hn3
      go_wp2_with fail
      refine (rall_any b2 lb tb l2 w3 G3.out.d).mono ?_
      rintro e w4 ⟨v2, rfl, hw2, hn4⟩
      have HSO := Lib.hid (sameO_any l2 v1 v2 _ _ w4 (own_kept HW1.out hn4 (fun _ _ => id)) hw2 hl2)
      have G4 := Lib.hid (G3.out.new hn4)
      clear hw2 hn4
      go_wp2_with fail
      refine HSO.out.mono ?_
      rintro e w5 ⟨rfl, hn5⟩
      have G5 := Lib.hid (G4.out.new hn5)
      clear hn5
      go_wp2_with fail
      refine (HLN.out w5 G5.out.p).mono ?_
      rintro e w6 ⟨rfl, hn6⟩
      have G6 := Lib.hid (G5.out.new hn6)
      clear hn6
      go_wp2_with fail
      refine (rall_any b2 lb tb l2 w6 G6.out.d).mono ?_
      rintro e w7 ⟨v3, rfl, hw3, hn7⟩
      obtain ⟨a3, c3, rfl, _⟩ := owned_form hw3
      have G7 := Lib.hid (G6.out.new hn7)
      clear hw3 hn7
      obtain ⟨N2, hN2⟩ : ∃ N2, (live l2).length = N2 := ⟨_, rfl⟩
      rw [hN2]
      have t9 : ((N2 : Int) != (N2 : Int)) = false := by simp
      clear hN2 hlv HLA HLN
      go_wp2_with fail
      go_roundw
      case rel => exact ⟨k + 1, by omega, by omega, by go_num, l2, G7.out⟩
      case measure => simp [intOf]; omega
    · by_cases hkl : k < K
      all_goals
        go_wp2_with fail
        refine (awake_any wr).mono ?_
        rintro e w3 ⟨rfl, hn3⟩
        have HN3 := Lib.hid (HP.out.n.trans hn3)
        clear hn3
        go_wp2
        go_ret
        exact ⟨rfl, HN3.out⟩

end Go.Proofs.YtincfbgegoefgaaDoor
