/- Whoever was disarmed is not told; whoever is armed can't be armed again: the statement's walk. -/
import Derived.Test.YtafeopcbfgmjkaaDoorClockD
import Derived.Test.YtafeopcbfgmjkaaDoorWithin
import Derived.Test.YtafeopcbfgmjkaaDoorBools
namespace Go.Proofs.YtafeopcbfgmjkaaDoor
open Go.RowKit Go.Maps

/-- All are due at 3; there are ids up to n. -/
def Of3 (n : Nat) (S : List Th) : Prop := ∀ x ∈ S, x.d = 3 ∧ 1 ≤ x.what ∧ x.what ≤ n
theorem of3_no {n u : Nat} {S : List Th} (h : Of3 n S) (hu : n < u) : hasW S u = false := by
  rw [Bool.eq_false_iff]
  intro hh
  obtain ⟨s, hs, e⟩ := hasW_iff.1 hh
  have := h s hs; omega
theorem of3_ins {n : Nat} {S : List Th} (h : Of3 n S) (hh : Nat) : Of3 (n + 1) (ins ⟨3, n + 1, hh⟩ S) := by
  intro x hx
  rcases ins_mem.1 hx with rfl | hx
  · exact ⟨rfl, by show 1 ≤ n + 1; omega, Nat.le_refl _⟩
  · obtain ⟨a, b, c⟩ := h x hx
    exact ⟨a, b, by omega⟩
theorem of3_woH {n : Nat} {S : List Th} (h : Of3 n S) (hh : Nat) : Of3 n (woH S hh) := fun x hx => h x (List.mem_filter.1 hx).1
theorem woH_noW {S : List Th} (hw : Hw S) {t : Th} (ht : t ∈ S) : hasW (woH S t.h) t.what = false := by
  rw [Bool.eq_false_iff]
  intro hh
  obtain ⟨s, hs, e⟩ := hasW_iff.1 hh
  obtain ⟨h1, h2⟩ := List.mem_filter.1 hs
  have := hw_eq hw h1 ht e
  subst this
  simp at h2
theorem due_none {S : List Th} {m : Nat} (h : ∀ x ∈ S, m < x.d) : due S m = [] ∧ rest S m = S := by
  have := tick_split (S := S) (now := m) (k := 0) (fun t ht => by simp at ht) (fun t ht => h t (List.mem_of_head? (by simpa using ht)))
  rw [List.take_zero, List.drop_zero] at this
  exact ⟨this.1.symm, this.2.symm⟩
theorem due_full {S : List Th} {m : Nat} (h : ∀ x ∈ S, x.d ≤ m) : due S m = S ∧ rest S m = [] := by
  have := tick_split (S := S) (now := m) (k := S.length) (fun t ht => h t (List.mem_of_mem_take ht)) (fun t ht => by simp at ht)
  rw [List.take_length, List.drop_length] at this
  exact ⟨this.1.symm, this.2.symm⟩

set_option maxRecDepth 100000 in
set_option maxHeartbeats 8000000 in
theorem off_walk (gs : List Bool) (ao : Option Addr) (ca : Nat) (tk : Int) (w : World) (hg : Laid w) (hgs : Bools w ao gs) (hm : gs.length ≤ 9223372036854775807) (h1 : -9223372036854775808 ≤ tk) (h2 : tk ≤ 9223372036854775807) :
    Calls Tryd.prog 3 #[.slice ao gs.length ca, .int .i64 tk] w fun e w' => e = .returned (.bool true) ∧ New w w' := by
  obtain ⟨X, hX⟩ : ∃ X, gs.length = X := ⟨_, rfl⟩
  rw [hX] at hm ⊢
  obtain ⟨kk, hkk, hk8⟩ := within_nat tk 8 (by omega)
  have HG := Lib.hid hg
  have HGS := Lib.hid hgs
  have HXL := Lib.hid hX
  have HKK := Lib.hid hkk
  clear hg hgs hX hkk
  go_enter Tryd.func3, Tryd.ntmps3
  go_wp2_with fail
  refine (cnew_any _).mono ?_
  rintro e w1 ⟨cb, hb, mb, bm, rfl, hfr, hr, hn1⟩
  have HR := Lib.hid hr
  have HN := Lib.hid hn1
  have HF := Lib.hid (show CFresh w.heap.size cb hb mb bm _ from hfr)
  clear hr hn1 hfr
  go_upto_region 4 with fail
  go_cut [6] (fun s wx => ∃ n : Nat, s = .int .i64 n ∧ n ≤ X ∧ n ≤ 30 ∧ w1 = wx)
  case first => as_aux_lemma =>
    by_cases h40 : 30 < X
    · have q1 : (30 : Int) < (X : Int) := by omega
      go_wp2_with fail
      go_meet
      case rel => exact ⟨30, rfl, by omega, by omega, rfl⟩
    · have q1 : ¬ (30 : Int) < (X : Int) := by omega
      go_wp2_with fail
      go_meet
      case rel => exact ⟨X, rfl, by omega, by omega, rfl⟩
  case rest => as_aux_lemma =>
  obtain ⟨n, rfl, hnX, hn40, rfl⟩ := hcut
  go_wp2_with fail
  go_loopw [7, 8] (fun s i wr => ∃ (j : Nat) (S : List Th) (v : Value), j ≤ n ∧ i = .int .i64 j ∧ s = .int .i64 S.length ∧ ClockRep wr cb hb mb bm v S j 0 ∧ Of3 j S ∧ S.length ≤ j ∧ CFresh w.heap.size cb hb mb bm v ∧ New w wr) (fun _ i _ => n - (intOf i).toNat)
  case atStart => exact ⟨0, [], _, by omega, rfl, rfl, HR.out, fun x h => by simp at h, by simp, HF.out, HN.out⟩
  case round =>
    clear HR HF HN
    obtain ⟨j, S, v, hj, rfl, rfl, hr, h3, hsl, hfr, hn⟩ := hrel
    have HR := Lib.hid hr
    have H3 := Lib.hid h3
    have HF := Lib.hid hfr
    have HN := Lib.hid hn
    clear hr h3 hfr
    obtain ⟨q, hq⟩ : ∃ q, S.length = q := ⟨_, rfl⟩
    have HQ := Lib.hid hq
    rw [hq] at hsl ⊢
    clear hq
    by_cases hlt : j < n
    · obtain ⟨g, off, rfl, hg1, hc1⟩ := HGS.out.keep hn j (by rw [HXL.out]; omega)
      have hn0 := hn
      clear hn hc1
      have e1 : IntKind.u64.wrap ((j : Int) + 1) = ((j + 1 : Nat) : Int) := by rw [show (j : Int) + 1 = ((j + 1 : Nat) : Int) by omega]; simp [IntKind.wrap, IntKind.signed, IntKind.bits]; omega
      go_wp2_with fail
      rw [show (j : Int) + 1 = ((j + 1 : Nat) : Int) by omega]
      refine (arm_ok cb hb mb bm v S j 0 (j + 1) 3 wr HR.out (by omega) (by omega) (by omega) (of3_no H3.out (by omega)) (by omega) (by rw [HQ.out]; omega)).mono ?_
      rintro e w2 ⟨rfl, v2, hr2, ho2, hf2⟩
      obtain ⟨t, ht⟩ : ∃ t : Th, t = ⟨3, j + 1, j + 1⟩ := ⟨_, rfl⟩
      obtain ⟨S2, hS2⟩ : ∃ S2, ins t S = S2 := ⟨_, rfl⟩
      rw [← ht, hS2] at hr2
      have HT := Lib.hid ht
      have HS2 := Lib.hid hS2
      have H32 := Lib.hid (show Of3 (j + 1) S2 by rw [← hS2, ht]; exact of3_ins H3.out _)
      have htm : t ∈ S2 := by rw [← hS2]; exact ins_mem.2 (.inl rfl)
      have hl2 : S2.length = q + 1 := by rw [← hS2, ins_len, HQ.out]
      have HL2 := Lib.hid hl2
      have HF2 := Lib.hid (HF.out.turn ho2 HN.out.size)
      have HN2 := Lib.hid (newC HN.out hf2 HF.out)
      have HR2 := Lib.hid hr2
      have hhas : hasW S2 (j + 1) = true := hasW_iff.2 ⟨t, htm, by rw [ht]⟩
      have hae : armErr S2 (j + 1) = some (0, 8) := by unfold armErr; rw [if_neg (by omega), if_pos hhas]
      have han := arm_no cb hb mb bm v2 S2 (j + 1) 0 (j + 1) 9 w2 hr2 (by omega) (by rw [hae]; simp)
      rw [hae] at han
      have HAN := Lib.hid han
      clear hr2 ho2 hf2 HF HN HR ht hS2 hhas hae han hl2
      go_wp2_with fail
      refine HAN.out.mono ?_
      rintro e w3 ⟨x, rfl, _, hsy, hn3⟩
      have HSY := Lib.hid hsy
      have HR3 := Lib.hid (HR2.out.new hn3)
      have HN3 := Lib.hid (HN2.out.trans hn3)
      clear hsy hn3 HAN HR2 HN2
      go_wp2_with fail
      refine (no_any clockL 0 8 _).mono ?_
      rintro e w4 ⟨f, rfl, hf, hn4⟩
      have HSM := Lib.hid (same_says x f clockL (some (0, 8)) w4 (HG.out.keep (HN3.out.trans hn4) id) (HSY.out.new hn4) hf)
      have HR4 := Lib.hid (HR3.out.new hn4)
      have HN4 := Lib.hid (HN3.out.trans hn4)
      clear hf hn4 HSY HR3 HN3
      go_wp2_with fail
      refine HSM.out.mono ?_
      rintro e w5 ⟨rfl, hn5⟩
      have HR5 := Lib.hid (HR4.out.new hn5)
      have HN5 := Lib.hid (HN4.out.trans hn5)
      clear hn5 HSM HR4 HN4
      go_wp2_with fail
      first | rw [show (j : Int) + 1 + 100 = ((j + 101 : Nat) : Int) by omega] | rw [show ((j + 1 : Nat) : Int) + 100 = ((j + 101 : Nat) : Int) by omega]
      refine (arm_forever cb hb mb bm v2 S2 (j + 1) 0 (j + 101) w5 HR5.out (by omega) (by omega) (of3_no H32.out (by omega))).mono ?_
      rintro e w6 ⟨rfl, hn6⟩
      have HR6 := Lib.hid (HR5.out.new hn6)
      have HN6 := Lib.hid (HN5.out.trans hn6)
      clear hn6 HR5 HN5
      go_wp2_with fail
      first | rw [show (j : Int) + 1 + 100 = ((j + 101 : Nat) : Int) by omega] | rw [show ((j + 1 : Nat) : Int) + 100 = ((j + 101 : Nat) : Int) by omega]
      refine (disarm_no cb hb mb bm v2 S2 (j + 1) 0 (j + 101) w6 HR6.out (by omega) (of3_no H32.out (by omega))).mono ?_
      rintro e w7 ⟨rfl, hn7⟩
      have HR7 := Lib.hid (HR6.out.new hn7)
      have HN7 := Lib.hid (HN6.out.trans hn7)
      clear hn7 HR6 HN6
      obtain ⟨g', off', eg, hg7, hc7⟩ := HGS.out.keep HN7.out j (by rw [HXL.out]; omega)
      obtain ⟨rfl, rfl⟩ : g = g' ∧ off = off' := by simpa using eg
      clear eg hn0 hg1
      cases hgo : gat gs j with
      | true =>
        rw [hgo] at hc7
        have hdo := disarm_ok cb hb mb bm v2 S2 (j + 1) 0 t w7 HR7.out htm
        rw [show (t.what : Int) = ((j + 1 : Nat) : Int) by rw [HT.out]] at hdo
        have HDO := Lib.hid hdo
        have HNW := Lib.hid (show hasW (woH S2 t.h) (j + 1) = false by have := woH_noW HR7.out.once htm; rw [HT.out] at this ⊢; exact this)
        have HWL := Lib.hid (show (woH S2 t.h).length = q by rw [woH_len (rep_hs HR7.out) htm, HL2.out]; omega)
        clear hgo hdo
        go_wp2_with fail
        refine HDO.out.mono ?_
        rintro e w8 ⟨rfl, v8, hr8, ho8, hf8⟩
        have HF8 := Lib.hid (HF2.out.less ho8)
        have HN8 := Lib.hid (newC HN7.out hf8 HF2.out)
        have HR8 := Lib.hid hr8
        clear hr8 ho8 hf8 HDO HR7 HN7 HF2
        go_wp2_with fail
        refine (disarm_no cb hb mb bm v8 _ (j + 1) 0 (j + 1) w8 HR8.out (by omega) HNW.out).mono ?_
        rintro e w9 ⟨rfl, hn9⟩
        have HR9 := Lib.hid (HR8.out.new hn9)
        have HN9 := Lib.hid (HN8.out.trans hn9)
        clear hn9 HR8 HN8
        go_wp2_with fail
        go_roundw
        case rel => exact ⟨j + 1, _, v8, by omega, by go_num, by rw [HWL.out], HR9.out, of3_woH H32.out _, by rw [HWL.out]; omega, HF8.out, HN9.out⟩
        case measure => simp [intOf]; omega
      | false =>
        rw [hgo] at hc7
        clear hgo
        go_wp2_with fail
        go_roundw
        case rel => exact ⟨j + 1, S2, v2, by omega, by go_num, by rw [HL2.out]; go_num, HR7.out, H32.out, by rw [HL2.out]; omega, HF2.out, HN7.out⟩
        case measure => simp [intOf]; omega
    · obtain rfl : n = j := by omega
      clear hn
      go_wp2_with fail
      refine (within_any tk 8 _ (by omega) (by omega) (by omega) (by omega)).mono ?_
      rintro e w' ⟨rfl, rfl⟩
      rw [HKK.out]
      go_wp2_with fail
      go_loopw [11, 12] (fun s i wr => ∃ (m : Nat) (S' : List Th) (v : Value) (got : Nat), m ≤ kk ∧ i = .int .i64 m ∧ s = .int .i64 got ∧ ClockRep wr cb hb mb bm v S' n m ∧ ((m < 3 ∧ S'.length = q ∧ Of3 n S' ∧ got = 0) ∨ (3 ≤ m ∧ S' = [] ∧ got = q)) ∧ CFresh w.heap.size cb hb mb bm v ∧ New w wr) (fun _ i _ => kk - (intOf i).toNat)
      case atStart => exact ⟨0, S, v, 0, by omega, rfl, rfl, HR.out, .inl ⟨by omega, HQ.out, H3.out, rfl⟩, HF.out, HN.out⟩
      case round =>
        clear HR HF HN H3 HQ
        obtain ⟨m, S', v, got, hm', rfl, rfl, hr, hst, hfr, hn⟩ := hrel
        have HR := Lib.hid hr
        have HST := Lib.hid hst
        have HF := Lib.hid hfr
        have HN := Lib.hid hn
        have hgq : got ≤ q := by rcases hst with h | h <;> omega
        clear hr hfr hn hst
        by_cases hlt2 : m < kk
        · have ht := tick_any cb hb mb bm v S' n m wr HR.out (by omega)
          have hres : ∃ (D R : List Th), due S' (m + 1) = D ∧ rest S' (m + 1) = R ∧ got + D.length ≤ q ∧ ((m + 1 < 3 ∧ R.length = q ∧ Of3 n R ∧ got + D.length = 0) ∨ (3 ≤ m + 1 ∧ R = [] ∧ got + D.length = q)) := by
            rcases HST.out with ⟨h1, h2, h3, h4⟩ | ⟨h1, h2, h3⟩
            · by_cases e : m + 1 < 3
              · obtain ⟨d1, d2⟩ := due_none (S := S') (m := m + 1) (fun x hx => by have := (h3 x hx).1; omega)
                exact ⟨[], S', d1, d2, by simp; omega, .inl ⟨e, h2, h3, by simp; omega⟩⟩
              · obtain ⟨d1, d2⟩ := due_full (S := S') (m := m + 1) (fun x hx => by have := (h3 x hx).1; omega)
                exact ⟨S', [], d1, d2, by omega, .inr ⟨by omega, rfl, by omega⟩⟩
            · subst h2
              exact ⟨[], [], rfl, rfl, by simp; omega, .inr ⟨by omega, rfl, by simpa using h3⟩⟩
          obtain ⟨D, R, e1, e2, hle, hst⟩ := hres
          rw [e1, e2] at ht
          obtain ⟨dl, hdl⟩ : ∃ dl, D.length = dl := ⟨_, rfl⟩
          rw [hdl] at ht hst hle
          have HT := Lib.hid ht
          have HST2 := Lib.hid hst
          clear ht hst e1 e2 hdl
          go_wp2_with fail
          refine HT.out.mono ?_
          rintro e w2 ⟨vl, v2, rfl, hrow, hr2, ho2, hf2⟩
          obtain ⟨lo, lc, rfl, _⟩ := owned_form hrow
          have HF2 := Lib.hid (HF.out.less ho2)
          have HN2 := Lib.hid (newC HN.out hf2 HF.out)
          have HR2 := Lib.hid hr2
          clear hrow hr2 ho2 hf2 HT HF HN HR
          go_wp2_with fail
          go_roundw
          case rel => exact ⟨m + 1, R, v2, got + dl, by omega, by go_num, by go_num, HR2.out, HST2.out, HF2.out, HN2.out⟩
          case measure => simp [intOf]; omega
        · obtain rfl : kk = m := by omega
          rcases HST.out with ⟨h1, h2, h3, rfl⟩ | ⟨h1, rfl, rfl⟩
          · have HL := Lib.hid h2
            have q1 : (kk : Int) < 3 := by omega
            clear h2 h3
            rw [show (((0 : Nat)) : Int) = 0 from rfl]
            go_wp2_with fail
            refine (armed_any cb hb mb bm v S' n _ wr HR.out).mono ?_
            rw [HL.out]
            rintro e w2 ⟨rfl, rfl⟩
            have t1 : ((q : Int) == (q : Int)) = true := by simp
            go_wp2_with fail
            refine (awake_any _).mono ?_
            rintro e w6 ⟨rfl, hn6⟩
            have HN6 := Lib.hid (HN.out.trans hn6)
            clear hn6
            go_wp2
            go_ret
            exact ⟨rfl, HN6.out⟩
          · have q1 : ¬ (kk : Int) < 3 := by omega
            have t1 : ((got : Int) == (got : Int)) = true := by simp
            go_wp2_with fail
            refine (armed_any cb hb mb bm v [] n _ wr HR.out).mono ?_
            rintro e w2 ⟨rfl, rfl⟩
            rw [show (([] : List Th).length : Int) = 0 from rfl]
            go_wp2_with fail
            refine (awake_any _).mono ?_
            rintro e w6 ⟨rfl, hn6⟩
            have HN6 := Lib.hid (HN.out.trans hn6)
            clear hn6
            go_wp2
            go_ret
            exact ⟨rfl, HN6.out⟩

end Go.Proofs.YtafeopcbfgmjkaaDoor
