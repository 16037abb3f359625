/- Whoever is armed is told just at the first tick at which its time has come: the statement's walk. -/
import Derived.Test.YtafeopcbfgmjkaaClockC
import Derived.IntWalk
namespace Go.Proofs.Ytafeopcbfgmjkaa
open Go.RowKit Go.Maps

/-- All are of these deadlines; there are ids up to n. -/
def Of50 (xs : List Nat) (n : Nat) (S : List Th) : Prop := ∀ x ∈ S, 1 ≤ x.what ∧ x.what ≤ n ∧ x.d = xs.getD (x.what - 1) 0 % 50
theorem of50_ins {xs : List Nat} {n : Nat} {S : List Th} (h : Of50 xs n S) (hh : Nat) : Of50 xs (n + 1) (ins ⟨xs.getD n 0 % 50, n + 1, hh⟩ S) := by
  intro x hx
  rcases ins_mem.1 hx with rfl | hx
  · exact ⟨by show 1 ≤ n + 1; omega, Nat.le_refl _, by show _ = xs.getD (n + 1 - 1) 0 % 50; rw [Nat.add_sub_cancel]⟩
  · obtain ⟨a, b, c⟩ := h x hx
    exact ⟨a, by omega, c⟩
theorem of50_no {xs : List Nat} {n : Nat} {S : List Th} (h : Of50 xs n S) : hasW S (n + 1) = false := by
  rw [Bool.eq_false_iff]
  intro hh
  obtain ⟨s, hs, e⟩ := hasW_iff.1 hh
  have := h s hs; omega
theorem due_mem {S : List Th} {m : Nat} {x : Th} (h : x ∈ due S m) : x ∈ S ∧ x.d ≤ m := by
  induction S with
  | nil => simp [due] at h
  | cons a r ih =>
    unfold due at h
    by_cases e : a.d ≤ m
    · rw [List.takeWhile_cons_of_pos (by simpa using e)] at h
      rcases List.mem_cons.1 h with rfl | h
      · exact ⟨List.mem_cons_self .., e⟩
      · obtain ⟨h3, h4⟩ := ih h
        exact ⟨List.mem_cons_of_mem _ h3, h4⟩
    · rw [List.takeWhile_cons_of_neg (by simpa using e)] at h; simp at h
theorem rest_mem {S : List Th} (hs : Srt S) {m : Nat} {x : Th} (h : x ∈ rest S m) : x ∈ S ∧ m < x.d := by
  induction S with
  | nil => simp [rest] at h
  | cons a r ih =>
    obtain ⟨h1, h2⟩ := List.pairwise_cons.1 hs
    unfold rest at h
    by_cases e : a.d ≤ m
    · rw [List.dropWhile_cons_of_pos (by simpa using e)] at h
      obtain ⟨h3, h4⟩ := ih h2 h
      exact ⟨List.mem_cons_of_mem _ h3, h4⟩
    · rw [List.dropWhile_cons_of_neg (by simpa using e)] at h
      refine ⟨h, ?_⟩
      rcases List.mem_cons.1 h with rfl | h
      · omega
      · have := h1 x h; unfold ah at this; omega
theorem due_rest_len (S : List Th) (m : Nat) : (due S m).length + (rest S m).length = S.length := by
  unfold due rest
  rw [← List.length_append, List.takeWhile_append_dropWhile]
theorem due_ord {S : List Th} (hs : Srt S) {m i : Nat} {a b : Th} (ha : (due S m)[i]? = some a) (hb : (due S m)[i + 1]? = some b) : a.d ≤ b.d := by
  have hp : (due S m).Pairwise ah := List.Pairwise.sublist (List.takeWhile_sublist _) hs
  obtain ⟨hi, rfl⟩ := List.getElem?_eq_some_iff.1 ha
  obtain ⟨hj, rfl⟩ := List.getElem?_eq_some_iff.1 hb
  have := List.pairwise_iff_getElem.1 hp i (i + 1) hi hj (by omega)
  unfold ah at this; omega
theorem rep_srt {w : World} {cb hb mb bm : Nat} {v : Value} {S : List Th} {last now : Nat} (h : ClockRep w cb hb mb bm v S last now) : Srt S := by
  obtain ⟨_, _, _, _, _, _, _, _, h7, _⟩ := h.heap
  exact h7

set_option maxRecDepth 100000 in
set_option maxHeartbeats 8000000 in
theorem once_walk (xs : List Nat) (ao : Option Addr) (ca : Nat) (w : World) (hx : Nats w ao xs) (hm : xs.length ≤ 9223372036854775807) (hxf : ∀ x ∈ xs, x < 18446744073709551616) :
    Calls Try.prog 4 #[.slice ao xs.length ca] w fun e w' => e = .returned (.bool true) ∧ New w w' := by
  obtain ⟨X, hX⟩ : ∃ X, xs.length = X := ⟨_, rfl⟩
  rw [hX] at hm ⊢
  have HX := Lib.hid hx
  have HXL := Lib.hid hX
  have HXF := Lib.hid hxf
  clear hx hX hxf
  go_enter Try.func4, Try.ntmps4
  go_wp2_with fail
  refine (cnew_any _).mono ?_
  rintro e w1 ⟨cb, hb, mb, bm, rfl, hfr, hr, hn1⟩
  have HR := Lib.hid hr
  have HN := Lib.hid hn1
  have HF := Lib.hid (show CFresh w.heap.size cb hb mb bm _ from hfr)
  clear hr hn1 hfr
  go_upto_region 4 with fail
  go_cut [4] (fun s wx => ∃ n : Nat, s = .int .i64 n ∧ n ≤ X ∧ n ≤ 40 ∧ w1 = wx)
  case first => as_aux_lemma =>
    by_cases h40 : 40 < X
    · have q1 : (40 : Int) < (X : Int) := by omega
      go_wp2_with fail
      go_meet
      case rel => exact ⟨40, rfl, by omega, by omega, rfl⟩
    · have q1 : ¬ (40 : Int) < (X : Int) := by omega
      go_wp2_with fail
      go_meet
      case rel => exact ⟨X, rfl, by omega, by omega, rfl⟩
  case rest => as_aux_lemma =>
  obtain ⟨n, rfl, hnX, hn40, rfl⟩ := hcut
  go_wp2_with fail
  go_loopw [5] (fun i wr => ∃ (j : Nat) (S : List Th) (v : Value), j ≤ n ∧ i = .int .i64 j ∧ ClockRep wr cb hb mb bm v S j 0 ∧ Of50 xs j S ∧ S.length = j ∧ CFresh w.heap.size cb hb mb bm v ∧ New w wr) (fun i _ => n - (intOf i).toNat)
  case atStart => exact ⟨0, [], _, by omega, rfl, HR.out, fun x h => by simp at h, rfl, HF.out, HN.out⟩
  case round =>
    clear HR HF HN
    obtain ⟨j, S, v, hj, rfl, hr, h50, hsl, hfr, hn⟩ := hrel
    have HR := Lib.hid hr
    have H50 := Lib.hid h50
    have HSL := Lib.hid hsl
    have HF := Lib.hid hfr
    have HN := Lib.hid hn
    clear hr h50 hsl hfr
    by_cases hlt : j < n
    · have hxj : xs[j]? = some (xs.getD j 0) := by
        have : j < xs.length := by rw [HXL.out]; omega
        rw [List.getD_eq_getElem?_getD, List.getElem?_eq_getElem this]; rfl
      obtain ⟨g, off, rfl, hg1, hc1⟩ := HX.out.keep hn j _ hxj
      have hi50 := fun hh => of50_ins H50.out hh
      have HI50 := Lib.hid hi50
      generalize xs.getD j 0 = x at hc1 HI50
      clear hn hxj hi50
      go_wp2_with fail
      rw [show (j : Int) + 1 = ((j + 1 : Nat) : Int) by omega, show (x : Int) % 50 = ((x % 50 : Nat) : Int) by omega]
      refine (arm_ok cb hb mb bm v S j 0 (j + 1) (x % 50) wr HR.out (by omega) (by omega) (by omega) (of50_no H50.out) (by omega) (by rw [HSL.out]; omega)).mono ?_
      rintro e w2 ⟨rfl, v2, hr2, ho2, hf2⟩
      have HF2 := Lib.hid (HF.out.turn ho2 HN.out.size)
      have HN2 := Lib.hid (newC HN.out hf2 HF.out)
      have HR2 := Lib.hid hr2
      clear hr2 ho2 hf2 HF HN HR
      go_wp2_with fail
      go_roundw
      case rel => exact ⟨j + 1, _, v2, by omega, by go_num, HR2.out, HI50.out _, by rw [ins_len, HSL.out], HF2.out, HN2.out⟩
      case measure => simp [intOf]; omega
    · obtain rfl : n = j := by omega
      clear hn
      go_wp2_with fail
      go_loopw [6, 7] (fun s t wr => ∃ (m told : Nat) (S : List Th) (v : Value), 1 ≤ m ∧ m ≤ 52 ∧ t = .int .u64 m ∧ s = .int .i64 told ∧ ClockRep wr cb hb mb bm v S n (m - 1) ∧ Of50 xs n S ∧ (m = 1 ∨ ∀ x ∈ S, m - 1 < x.d) ∧ told + S.length = n ∧ CFresh w.heap.size cb hb mb bm v ∧ New w wr) (fun _ t _ => 52 - (intOf t).toNat)
      case atStart => exact ⟨1, 0, S, v, by omega, by omega, rfl, rfl, HR.out, H50.out, .inl rfl, by rw [HSL.out]; omega, HF.out, HN.out⟩
      case round =>
        clear HR HF HN H50 HSL
        obtain ⟨m, told, S, v, hm1, hm2, rfl, rfl, hr, h50, hfar, hsl, hfr, hn⟩ := hrel
        have HR := Lib.hid hr
        have H50 := Lib.hid h50
        have HFAR := Lib.hid hfar
        have HSL := Lib.hid hsl
        have HF := Lib.hid hfr
        have HN := Lib.hid hn
        have hSl : S.length ≤ n := by omega
        have htl : told ≤ n := by omega
        clear hr h50 hfar hsl hfr hn
        by_cases hlt2 : m < 52
        · obtain ⟨now, hnow⟩ : ∃ now, m - 1 = now := ⟨_, rfl⟩
          rw [hnow] at HR HFAR
          obtain rfl : m = now + 1 := by omega
          have HT := Lib.hid (tick_any cb hb mb bm v S n now wr HR.out (by omega))
          clear hnow
          go_wp2_with fail
          refine HT.out.mono ?_
          rintro e w2 ⟨vl, v2, rfl, hrow2, hr2, ho2, hf2⟩
          have HF2 := Lib.hid (HF.out.less ho2)
          have HN2 := Lib.hid (newC HN.out hf2 HF.out)
          have HR2 := Lib.hid hr2
          have hdl := due_rest_len S (now + 1)
          obtain ⟨D, hD⟩ : ∃ D, due S (now + 1) = D := ⟨_, rfl⟩
          have HD := Lib.hid hD
          rw [hD] at hrow2 hdl
          obtain ⟨q, hq⟩ : ∃ q, D.length = q := ⟨_, rfl⟩
          have HQ := Lib.hid hq
          rw [hq] at hrow2 hdl
          obtain ⟨lo, lc, rfl, hcl⟩ := row_form hrow2
          have HCL := Lib.hid (show ∀ w', New w2 w' → ∀ (i x : Nat), (D.map Th.what)[i]? = some x → ∃ g, lo = some ⟨g, 0, none⟩ ∧ g < w'.heap.size ∧ w'.cell? ⟨g, i, none⟩ = some (.int .u64 x) from fun w' f i x hi => by
            obtain ⟨g, h1, _, h2, h3⟩ := hcl i x hi
            exact ⟨g, h1, Nat.lt_of_lt_of_le h2 f.size, (f.cell h2 id _).trans h3⟩)
          have HSRT := Lib.hid (rep_srt HR.out)
          have hq40 : q ≤ n := by omega
          clear hrow2 hr2 ho2 hf2 hD hq hcl HT
          go_wp2_with fail
          go_loopw [9] (fun i wr => ∃ k : Nat, k ≤ q ∧ i = .int .i64 k ∧ New w2 wr) (fun i _ => q - (intOf i).toNat)
          case atStart => exact ⟨0, by omega, rfl, Fr.refl _ _⟩
          case round =>
            obtain ⟨k, hk, rfl, hnk⟩ := hrel
            have HNK := Lib.hid hnk
            by_cases hlt3 : k < q
            · obtain ⟨a, hak⟩ : ∃ a, D[k]? = some a := ⟨D[k]'(by rw [HQ.out]; exact hlt3), by simp⟩
              obtain ⟨haS, had⟩ := due_mem (by rw [HD.out]; exact List.mem_of_getElem? hak : a ∈ due S (now + 1))
              obtain ⟨a1, a2, a3⟩ := H50.out a haS
              obtain ⟨g, rfl, hg1, hg2⟩ := HCL.out _ hnk k a.what (by rw [List.getElem?_map, hak]; rfl)
              have hxp : xs[a.what - 1]? = some (xs.getD (a.what - 1) 0) := by
                have : a.what - 1 < xs.length := by rw [HXL.out]; omega
                rw [List.getD_eq_getElem?_getD, List.getElem?_eq_getElem this]; rfl
              obtain ⟨gx, ox, rfl, hx1, hx2⟩ := HX.out.keep (HN2.out.trans hnk) _ _ hxp
              obtain ⟨p, hp⟩ : ∃ p, a.what - 1 = p := ⟨_, rfl⟩
              rw [hp] at a3 hx2
              obtain ⟨y, hy⟩ : ∃ y, xs.getD p 0 = y := ⟨_, rfl⟩
              rw [hy] at a3 hx2
              have hyb : y < 18446744073709551616 := by rw [← hy, ← hp]; exact HXF.out _ (List.mem_of_getElem? hxp)
              have hpX : p < X := by omega
              obtain ⟨wa, hwa⟩ : ∃ wa, a.what = wa := ⟨_, rfl⟩
              rw [hwa] at a1 a2 hp hg2
              obtain ⟨da, hda⟩ : ∃ da, a.d = da := ⟨_, rfl⟩
              rw [hda] at a3 had
              have hfar := HFAR.out
              have hda2 : now = 0 ∨ now < da := by
                rcases hfar with h | h
                · left; omega
                · right; rw [← hda]; exact h a haS
              have e1 : IntKind.u64.wrap ((wa : Int) - 1) = (p : Int) := by rw [show (wa : Int) - 1 = (p : Int) by omega]; simp [IntKind.wrap, IntKind.signed, IntKind.bits]; omega
              have e2 : (y : Int).tmod 50 = (da : Int) := by rw [Int.tmod_eq_emod_of_nonneg (by omega)]; omega
              have q1 : ¬ ((wa : Int) < 1) := by omega
              have q2 : ¬ ((n : Int) < (wa : Int)) := by omega
              have d1 : decide ((wa : Int) < 1) = false := by simp; omega
              have d2 : decide (n < wa) = false := by simp; omega
              have d3 : ((if (da : Int) < 1 then (1 : Int) else (da : Int)) != (now : Int) + 1) = false := by
                rw [bne_eq_false_iff_eq]
                split <;> omega
              have q3 : IntKind.u64.wrap (n : Int) = (n : Int) := by simp [IntKind.wrap, IntKind.signed, IntKind.bits]; omega
              have q4 : (0 : Int) ≤ (p : Int) := by omega
              have q5 : (p : Int) < (X : Int) := by omega
              have q6 : (0 : Int) ≤ (k : Int) := by omega
              have q7 : (k : Int) < (q : Int) := by omega
              have HAK := Lib.hid hak
              have HDA := Lib.hid hda
              have HDA2 := Lib.hid hda2
              clear hak hxp haS hp hy hwa hda hnk a3 hfar hyb hda2
              by_cases hk0 : k = 0
              · subst hk0
                rw [show ((0 : Nat) : Int) = 0 from rfl] at *
                go_wp2_with fail
                go_quiet (fail)
                have hnd : New w2 (wr.drewN nq) := HNK.out.drewN nq
                go_wp2_with fail
                go_roundw
                case rel => exact ⟨1, by omega, by go_num, hnd⟩
                case measure => simp [intOf]; omega
              · obtain ⟨b, hbk⟩ : ∃ b, D[k - 1]? = some b := ⟨D[k - 1]'(by rw [HQ.out]; omega), by simp⟩
                obtain ⟨hbS, hbd⟩ := due_mem (by rw [HD.out]; exact List.mem_of_getElem? hbk : b ∈ due S (now + 1))
                obtain ⟨b1, b2, b3⟩ := H50.out b hbS
                obtain ⟨j, hj⟩ : ∃ j, k - 1 = j := ⟨_, rfl⟩
                have hor : b.d ≤ da := by
                  have := due_ord HSRT.out (m := now + 1) (i := k - 1) (a := b) (b := a) (by rw [HD.out]; exact hbk) (by rw [HD.out, show k - 1 + 1 = k by omega]; exact HAK.out)
                  rw [HDA.out] at this; exact this
                obtain ⟨g', eg, hgg1, hgg2⟩ := HCL.out _ HNK.out (k - 1) b.what (by rw [List.getElem?_map, hbk]; rfl)
                obtain rfl : g = g' := by simpa using eg
                have hxp : xs[b.what - 1]? = some (xs.getD (b.what - 1) 0) := by
                  have : b.what - 1 < xs.length := by rw [HXL.out]; omega
                  rw [List.getD_eq_getElem?_getD, List.getElem?_eq_getElem this]; rfl
                obtain ⟨gx', ox', ex, hxx1, hxx2⟩ := HX.out.keep (HN2.out.trans HNK.out) _ _ hxp
                obtain ⟨rfl, rfl⟩ : gx = gx' ∧ ox = ox' := by simpa using ex
                obtain ⟨p', hp'⟩ : ∃ p', b.what - 1 = p' := ⟨_, rfl⟩
                rw [hp'] at b3 hxx2
                obtain ⟨y', hy'⟩ : ∃ y', xs.getD p' 0 = y' := ⟨_, rfl⟩
                rw [hy'] at b3 hxx2
                obtain ⟨wb, hwb⟩ : ∃ wb, b.what = wb := ⟨_, rfl⟩
                rw [hwb] at b1 b2 hp' hgg2
                obtain ⟨db, hdb⟩ : ∃ db, b.d = db := ⟨_, rfl⟩
                rw [hdb] at b3 hor
                rw [hj] at hgg2
                have hyb' : y' < 18446744073709551616 := by rw [← hy', ← hp', ← hwb]; exact HXF.out _ (List.mem_of_getElem? hxp)
                have f1 : IntKind.u64.wrap ((wb : Int) - 1) = (p' : Int) := by rw [show (wb : Int) - 1 = (p' : Int) by omega]; simp [IntKind.wrap, IntKind.signed, IntKind.bits]; omega
                have f2 : (y' : Int).tmod 50 = (db : Int) := by rw [Int.tmod_eq_emod_of_nonneg (by omega)]; omega
                have f3 : IntKind.i64.wrap ((k : Int) - 1) = (j : Int) := by rw [show (k : Int) - 1 = (j : Int) by omega]; exact IntWalk.i64_in _ (by omega)
                have r1 : (0 : Int) < (k : Int) := by omega
                have r2 : decide (0 < k) = true := by simp; omega
                have r3 : decide (da < db) = false := by simp; omega
                have r4 : (0 : Int) ≤ (p' : Int) := by omega
                have r5 : (p' : Int) < (X : Int) := by omega
                have r6 : (0 : Int) ≤ (j : Int) := by omega
                have r7 : (j : Int) < (q : Int) := by omega
                clear hbk hbS hj hxp ex eg hp' hy' hwb hdb b3 hyb'
                go_wp2_with fail
                go_quiet (fail)
                have hnd : New w2 (wr.drewN nq) := HNK.out.drewN nq
                go_wp2_with fail
                go_roundw
                case rel => exact ⟨k + 1, by omega, by go_num, hnd⟩
                case measure => simp [intOf]; omega
            · obtain rfl : q = k := by omega
              have HNW := Lib.hid (HN2.out.trans hnk)
              have HRW := Lib.hid (HR2.out.new hnk)
              clear hnk HR2 HN2
              go_wp2_with fail
              rw [show (now : Int) + 1 + 1 = ((now + 2 : Nat) : Int) by omega, show (told : Int) + (q : Int) = ((told + q : Nat) : Int) by omega]
              go_roundw
              case rel => exact ⟨now + 2, told + q, _, v2, by omega, by omega, rfl, rfl, HRW.out, fun x hx => H50.out x (rest_mem HSRT.out hx).1, .inr (fun x hx => (rest_mem HSRT.out hx).2), by have := HSL.out; omega, HF2.out, HNW.out⟩
              case measure => simp [intOf]; omega
        · obtain rfl : m = 52 := by omega
          have hnil : S = [] := by
            cases S with
            | nil => rfl
            | cons x r =>
              rcases HFAR.out with h | h
              · omega
              · have h1 := h x (List.mem_cons_self ..)
                have h2 := (H50.out x (List.mem_cons_self ..)).2.2
                omega
          subst hnil
          obtain rfl : told = n := by have := HSL.out; simpa using this
          rw [show ((52 : Nat) : Int) = 52 from rfl]
          have t1 : ((told : Int) == (told : Int)) = true := by simp
          go_wp2_with fail
          refine (armed_any cb hb mb bm v [] told _ wr HR.out).mono ?_
          rintro e w2 ⟨rfl, rfl⟩
          rw [show (([] : List Th).length : Int) = 0 from rfl]
          go_wp2_with fail
          refine (now_any cb hb mb bm v [] told _ wr HR.out).mono ?_
          rintro e w2 ⟨rfl, rfl⟩
          rw [show ((52 - 1 : Nat) : Int) = 51 from rfl]
          go_wp2_with fail
          refine (awake_any _).mono ?_
          rintro e w6 ⟨rfl, hn6⟩
          have HN6 := Lib.hid (HN.out.trans hn6)
          clear hn6
          go_wp2
          go_ret
          exact ⟨rfl, HN6.out⟩

end Go.Proofs.Ytafeopcbfgmjkaa
