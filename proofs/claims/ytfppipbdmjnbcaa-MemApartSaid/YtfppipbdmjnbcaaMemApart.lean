/- An access of one cell changes no other one. -/
import Derived.Test.YtfppipbdmjnbcaaMemF
import Derived.Test.YtfppipbdmjnbcaaReg
import Derived.Test.YtfppipbdmjnbcaaRecs
import Derived.Test.YtfppipbdmjnbcaaWithin
namespace Go.Proofs.Ytfppipbdmjnbcaa
open Go.RowKit

/-- The first k of sixteen cells hold the first numbers. -/
def vals (xs : List Nat) (k : Nat) : List Nat := (List.range 16).map fun i => if i < k then xs.getD i 0 else 0
theorem vals_len (xs : List Nat) (k : Nat) : (vals xs k).length = 16 := by simp [vals]
theorem vals_zero (xs : List Nat) : vals xs 0 = List.replicate 16 0 := rfl
theorem vals_get (xs : List Nat) (k i : Nat) (h : i < 16) : (vals xs k)[i]? = some (if i < k then xs.getD i 0 else 0) := by simp [vals, h]
theorem vals_set (xs : List Nat) (k x : Nat) (hk : k < 16) (hx : xs[k]? = some x) : (vals xs k).set k x = vals xs (k + 1) := by
  apply List.ext_getElem?
  intro i
  by_cases h : i < 16
  · by_cases e : k = i
    · subst e
      rw [List.getElem?_set_self (by rw [vals_len]; exact h), vals_get _ _ _ h, if_pos (by omega), List.getD_eq_getElem?_getD, hx]; rfl
    · rw [List.getElem?_set_ne e, vals_get _ _ _ h, vals_get _ _ _ h]
      by_cases h2 : i < k
      · rw [if_pos h2, if_pos (by omega)]
      · rw [if_neg h2, if_neg (by omega)]
  · rw [List.getElem?_eq_none (by rw [List.length_set, vals_len]; omega), List.getElem?_eq_none (by rw [vals_len]; omega)]

theorem load_keep (b cb wb : Nat) (cs ws : List Nat) (th ct p W c : Nat) (w : World) (h : MemRep w b cb wb cs ws th ct) (hw : ws[p]? = some W) (hW : W = 32 ∨ W = 64) (hc : cs[p]? = some c) (hct : ct + 1 < 1000000000) :
    Calls Try.prog 10 #[.pointer (some ⟨b, 0, none⟩), .int .u64 p] w fun e w' => e = .returned (.tuple #[.int .u64 c, .nilIface]) ∧
      MemRep w' b cb wb cs ws th (ct + 1) ∧ Fr (fun k => k = b ∨ k = cb) w w' :=
  (load_any b cb wb cs ws th ct p W c w h hw hW hc hct).mono fun e w' ⟨h1, h2, h3⟩ => ⟨h1, by rw [show laidBy 0 W c 0 0 = c from rfl, set_self hc] at h2; exact h2, h3⟩

theorem get_rep {n x p : Nat} (h : p < n) : (List.replicate n x)[p]? = some x := by simp [h]

set_option maxRecDepth 100000 in
set_option maxHeartbeats 4000000 in
theorem apart_0 (xs : List Nat) (ao : Option Addr) (cap : Nat) (d a1 a2 a3 : Int) (A o v : Nat) (w : World) (hfit : ∀ x ∈ xs, x < 18446744073709551616) (hc : Nats w ao xs) (hm : xs.length ≤ 9223372036854775807)
    (hd : -9223372036854775808 ≤ d ∧ d ≤ 9223372036854775807) (ho : o < 18446744073709551616) (hv : v < 18446744073709551616) (hA : A < 18446744073709551616) (hq : d % 5 = 0) :
    Calls Try.prog 5 #[.slice ao xs.length cap, .agg #[.int .i64 d, .int .i64 a1, .int .i64 a2, .int .i64 a3, .int .u64 A, .int .u64 o, .int .u64 v]] w fun e w' => e = .returned (.bool true) ∧ New w w' := by
  obtain ⟨L, hL⟩ : ∃ L, xs.length = L := ⟨_, rfl⟩
  rw [hL] at hm ⊢
  obtain ⟨p, hpp, hp16⟩ : ∃ p : Nat, (A : Int) % 16 = (p : Int) ∧ p < 16 := ⟨A % 16, by omega, by omega⟩
  have HPP := Lib.hid hpp
  have HC := Lib.hid hc
  have HFIT := Lib.hid hfit
  have HL := Lib.hid hL
  have HQ := Lib.hid hq
  clear hc hfit hpp hq
  go_enter Try.func5, Try.ntmps5
  go_wp2_with fail
  obtain ⟨W0, hW0⟩ : ∃ W0, w.alloc (.cells #[.int .i64 d, .int .i64 a1, .int .i64 a2, .int .i64 a3, .int .u64 A, .int .u64 o, .int .u64 v] 41) = W0 := ⟨_, rfl⟩
  have hx0 : Arr W0 w.heap.size [.int .i64 d, .int .i64 a1, .int .i64 a2, .int .i64 a3, .int .u64 A, .int .u64 o, .int .u64 v] := by rw [← hW0]; exact Arr.new _ _ _
  have hn0 : New w W0 := by rw [← hW0]; exact (Fr.refl _ _).alloc _
  have hxlt := hx0.lt
  rw [hW0]
  have HX0 := Lib.hid hx0
  have HN0 := Lib.hid hn0
  clear hx0 hn0 hW0 hL
  refine (full_any 16 _ (by omega) (by omega)).mono ?_
  rintro e w1 ⟨b, cb, wb, rfl, ⟨hb, hcb, hwb⟩, hr, hn⟩
  have hbl := hr.hd.lt
  have hcl := hr.cells.lt
  have hwl := hr.widths.lt
  have HR1 := Lib.hid hr
  have HN1 := Lib.hid hn
  clear hr hn
  go_wp2_with fail
  go_loopw [7] (fun i wr => ∃ k : Nat, k ≤ 16 ∧ k ≤ L ∧ i = .int .i64 k ∧ MemRep wr b cb wb (vals xs k) (List.replicate 16 64) 16 k ∧ Arr wr w1.heap.size ((vals xs k).map fun x : Nat => Value.int .u64 x) ∧ New W0 wr ∧ w1.heap.size ≤ wr.heap.size) (fun i _ => 16 - (intOf i).toNat)
  case atStart => exact ⟨0, by omega, by omega, rfl, HR1.out.keep ((Fr.refl (fun _ => False) _).alloc _) id id id, Arr.new _ _ _, HN1.out.alloc _, by simp⟩
  case round =>
    obtain ⟨k, hk, hkl, rfl, hr, ha, hn, hsz⟩ := hrel
    have HR := Lib.hid hr
    have HA := Lib.hid ha
    have HN := Lib.hid hn
    by_cases hlt : k < 16 ∧ k < L
    · obtain ⟨hlt1, hlt2⟩ := hlt
      obtain ⟨x, hx⟩ : ∃ x, xs[k]? = some x := ⟨xs[k]'(by rw [HL.out]; exact hlt2), by simp⟩
      have hfx := HFIT.out x (List.mem_of_getElem? hx)
      obtain ⟨g, off, rfl, hg1, hc1⟩ := (HC.out.keep (HN0.out.trans hn)) k x hx
      obtain ⟨g', off', e1, hg0, _⟩ := (HC.out) k x hx
      obtain ⟨rfl, rfl⟩ : g = g' ∧ off = off' := by cases e1; exact ⟨rfl, rfl⟩
      have hgx : g < w1.heap.size := by have := HN0.out.size; have := HN1.out.size; omega
      have hstore := store_any b cb wb _ _ _ _ k 64 _ x wr hr (get_rep hlt1) (.inr rfl) (vals_get xs k k hlt1) (by omega) hfx
      have e4 : ∀ c, laidBy 1 64 c 0 x = x := fun c => rfl
      rw [e4, vals_set xs k x hlt1 hx] at hstore
      have HST := Lib.hid hstore
      have HXX := Lib.hid hx
      clear hr ha hn hstore e4 HR hx e1
      go_wp2_with fail
      refine HST.out.mono ?_
      rintro e w3 ⟨rfl, hr3, hf3⟩
      have ha3 := HA.out.keep hf3 (by omega)
      have hn3 := HN.out.then hf3 (fun i hi e => by omega)
      have hc3 := (hf3.cell hg1 (by omega) (off + k)).trans hc1
      have ca := ha3.cell k _ (by rw [List.getElem?_map, vals_get _ _ _ hlt1]; rfl)
      have fa := ha3.free
      have ha4 := ha3.set k (.int .u64 (x : Nat))
      rw [map_set, vals_set xs k x hlt1 HXX.out] at ha4
      have hs3 := hf3.size
      have HR3 := Lib.hid hr3
      have HA3 := Lib.hid ha3
      have HA4 := Lib.hid ha4
      have HN3 := Lib.hid hn3
      clear hr3 hf3 ha3 hn3 ha4 HA HN HST hc1
      go_wp2
      go_roundw
      case rel =>
        have hfs := Fr.setCell (S := fun i => i = w1.heap.size) (Fr.refl _ w3) (p := ⟨w1.heap.size, k, none⟩) (fun _ => rfl) (.int .u64 (x : Nat))
        exact ⟨k + 1, by omega, by omega, by go_num, HR3.out.keep hfs (by omega) (by omega) (by omega), HA4.out, HN3.out.then hfs (fun i hi e => by have := HN1.out.size; omega), by simp; omega⟩
      case measure => simp [intOf]; omega
    · obtain ⟨c, hvp⟩ : ∃ c, (vals xs k)[p]? = some c := ⟨(vals xs k)[p]'(by rw [vals_len]; exact hp16), by simp⟩
      have hbx := HX0.out.keep hn id
      have x0 := hbx.cell 0 _ rfl
      have x4 := hbx.cell 4 _ rfl
      have x5 := hbx.cell 5 _ rfl
      have x6 := hbx.cell 6 _ rfl
      have ca := ha.cell p (.int .u64 c) (by rw [List.getElem?_map, hvp]; rfl)
      have hpp := HPP.out
      have HVP := Lib.hid hvp
      have hwi := fun w => within_any d 5 w (by omega) (by omega) hd.1 hd.2
      rw [HQ.out] at hwi
      have hcall := load_any b cb wb _ _ _ _ p 64 c wr HR.out (get_rep hp16) (.inr rfl) HVP.out (by omega)
      generalize hY : laidBy 0 64 c 0 0 = y at hcall
      have hcl := hr.fits c (List.mem_of_getElem? hvp)
      have HWI := Lib.hid hwi
      have HCA := Lib.hid hcall
      have tcc : ((c : Int) != (c : Int)) = false := by simp
      clear hr ha hn hvp hwi hcall hbx hY
      have H16 : k < 16 ∨ k = 16 := by omega
      rcases H16 with h16 | h16
      all_goals
        go_wp2_with (go_at_call 15; refine (HWI.out _).mono ?_; rintro e w' ⟨rfl, rfl⟩)
        refine HCA.out.mono ?_
        rintro e w4 ⟨rfl, hr4, hf4⟩
        have ha4 := HA.out.keep hf4 (by omega)
        have hn4 := HN.out.then hf4 (fun i hi e => by omega)
        have ca4 := ha4.cell p (.int .u64 c) (by rw [List.getElem?_map, HVP.out]; rfl)
        have HR4 := Lib.hid hr4
        have HA4 := Lib.hid ha4
        have HN4 := Lib.hid hn4
        have hs4 := hf4.size
        clear hr4 hf4 ha4 hn4 HCA ca x0 x4 x5 x6 HWI
        go_wp2_with fail
        go_loopw [11] (fun i wq => ∃ k2 : Nat, k2 ≤ 16 ∧ i = .int .u64 k2 ∧ MemRep wq b cb wb ((vals xs k).set p y) (List.replicate 16 64) 16 (k + 1 + k2) ∧ Arr wq w1.heap.size ((vals xs k).map fun x : Nat => Value.int .u64 x) ∧ New W0 wq ∧ w1.heap.size ≤ wq.heap.size) (fun i _ => 16 - (intOf i).toNat)
        case atStart => exact ⟨0, by omega, rfl, HR4.out, HA4.out, HN4.out, by omega⟩
        case round =>
          clear HR4 HA4 HN4 ca4 hs4
          obtain ⟨k2, hk2, rfl, hr, ha, hn, hsz2⟩ := hrel
          by_cases hlt2 : k2 < 16
          · obtain ⟨c2, hv2⟩ : ∃ c2, ((vals xs k).set p y)[k2]? = some c2 := ⟨((vals xs k).set p y)[k2]'(by rw [List.length_set, vals_len]; exact hlt2), by simp⟩
            have hld := load_keep b cb wb _ _ _ _ k2 64 c2 _ hr (get_rep hlt2) (.inr rfl) hv2 (by omega)
            have HLD := Lib.hid hld
            have HA := Lib.hid ha
            have HN := Lib.hid hn
            have HV2 := Lib.hid hv2
            clear hr ha hn hld hv2
            rcases (show k2 = p ∨ k2 ≠ p by omega) with hkp | hkp
            · have t1 : ((k2 : Int) != (p : Int)) = false := by rw [hkp]; simp
              have HKP := Lib.hid hkp
              clear hkp
              go_wp2_with fail
              refine HLD.out.mono ?_
              rintro e w5 ⟨rfl, hr5, hf5⟩
              have HR5 := Lib.hid hr5
              have HF5 := Lib.hid hf5
              clear hr5 hf5
              go_wp2
              go_roundw
              case rel => exact ⟨k2 + 1, by omega, by go_num, HR5.out, HA.out.keep HF5.out (by omega), HN.out.then HF5.out (fun i hi e => by omega), by have := HF5.out.size; omega⟩
              case measure => simp [intOf]; omega
            · have t1 : ((k2 : Int) != (p : Int)) = true := by rw [bne_iff_ne]; omega
              have t2 : ((c2 : Int) != (c2 : Int)) = false := by simp
              go_wp2_with fail
              refine HLD.out.mono ?_
              rintro e w5 ⟨rfl, hr5, hf5⟩
              have ha5 := HA.out.keep hf5 (by omega)
              have ca5 := ha5.cell k2 (.int .u64 c2) (by have := HV2.out; rw [List.getElem?_set_ne (fun e => hkp e.symm)] at this; rw [List.getElem?_map, this]; rfl)
              have HA5 := Lib.hid ha5
              have HR5 := Lib.hid hr5
              have HF5 := Lib.hid hf5
              clear hr5 hf5 ha5
              go_wp2
              go_roundw
              case rel => exact ⟨k2 + 1, by omega, by go_num, HR5.out, HA5.out, HN.out.then HF5.out (fun i hi e => by omega), by have := HF5.out.size; omega⟩
              case measure => simp [intOf]; omega
          · have HN := Lib.hid hn
            clear hr ha hn
            go_wp2_with fail
            refine (awake_any _).mono ?_
            rintro e w6 ⟨rfl, hn6⟩
            have HN6 := Lib.hid hn6
            clear hn6
            go_wp2
            go_ret
            exact ⟨rfl, (HN0.out.trans HN.out).trans HN6.out⟩

set_option maxRecDepth 100000 in
set_option maxHeartbeats 4000000 in
theorem apart_1 (xs : List Nat) (ao : Option Addr) (cap : Nat) (d a1 a2 a3 : Int) (A o v : Nat) (w : World) (hfit : ∀ x ∈ xs, x < 18446744073709551616) (hc : Nats w ao xs) (hm : xs.length ≤ 9223372036854775807)
    (hd : -9223372036854775808 ≤ d ∧ d ≤ 9223372036854775807) (ho : o < 18446744073709551616) (hv : v < 18446744073709551616) (hA : A < 18446744073709551616) (hq : d % 5 = 1) :
    Calls Try.prog 5 #[.slice ao xs.length cap, .agg #[.int .i64 d, .int .i64 a1, .int .i64 a2, .int .i64 a3, .int .u64 A, .int .u64 o, .int .u64 v]] w fun e w' => e = .returned (.bool true) ∧ New w w' := by
  obtain ⟨L, hL⟩ : ∃ L, xs.length = L := ⟨_, rfl⟩
  rw [hL] at hm ⊢
  obtain ⟨p, hpp, hp16⟩ : ∃ p : Nat, (A : Int) % 16 = (p : Int) ∧ p < 16 := ⟨A % 16, by omega, by omega⟩
  have HPP := Lib.hid hpp
  have HC := Lib.hid hc
  have HFIT := Lib.hid hfit
  have HL := Lib.hid hL
  have HQ := Lib.hid hq
  clear hc hfit hpp hq
  go_enter Try.func5, Try.ntmps5
  go_wp2_with fail
  obtain ⟨W0, hW0⟩ : ∃ W0, w.alloc (.cells #[.int .i64 d, .int .i64 a1, .int .i64 a2, .int .i64 a3, .int .u64 A, .int .u64 o, .int .u64 v] 41) = W0 := ⟨_, rfl⟩
  have hx0 : Arr W0 w.heap.size [.int .i64 d, .int .i64 a1, .int .i64 a2, .int .i64 a3, .int .u64 A, .int .u64 o, .int .u64 v] := by rw [← hW0]; exact Arr.new _ _ _
  have hn0 : New w W0 := by rw [← hW0]; exact (Fr.refl _ _).alloc _
  have hxlt := hx0.lt
  rw [hW0]
  have HX0 := Lib.hid hx0
  have HN0 := Lib.hid hn0
  clear hx0 hn0 hW0 hL
  refine (full_any 16 _ (by omega) (by omega)).mono ?_
  rintro e w1 ⟨b, cb, wb, rfl, ⟨hb, hcb, hwb⟩, hr, hn⟩
  have hbl := hr.hd.lt
  have hcl := hr.cells.lt
  have hwl := hr.widths.lt
  have HR1 := Lib.hid hr
  have HN1 := Lib.hid hn
  clear hr hn
  go_wp2_with fail
  go_loopw [7] (fun i wr => ∃ k : Nat, k ≤ 16 ∧ k ≤ L ∧ i = .int .i64 k ∧ MemRep wr b cb wb (vals xs k) (List.replicate 16 64) 16 k ∧ Arr wr w1.heap.size ((vals xs k).map fun x : Nat => Value.int .u64 x) ∧ New W0 wr ∧ w1.heap.size ≤ wr.heap.size) (fun i _ => 16 - (intOf i).toNat)
  case atStart => exact ⟨0, by omega, by omega, rfl, HR1.out.keep ((Fr.refl (fun _ => False) _).alloc _) id id id, Arr.new _ _ _, HN1.out.alloc _, by simp⟩
  case round =>
    obtain ⟨k, hk, hkl, rfl, hr, ha, hn, hsz⟩ := hrel
    have HR := Lib.hid hr
    have HA := Lib.hid ha
    have HN := Lib.hid hn
    by_cases hlt : k < 16 ∧ k < L
    · obtain ⟨hlt1, hlt2⟩ := hlt
      obtain ⟨x, hx⟩ : ∃ x, xs[k]? = some x := ⟨xs[k]'(by rw [HL.out]; exact hlt2), by simp⟩
      have hfx := HFIT.out x (List.mem_of_getElem? hx)
      obtain ⟨g, off, rfl, hg1, hc1⟩ := (HC.out.keep (HN0.out.trans hn)) k x hx
      obtain ⟨g', off', e1, hg0, _⟩ := (HC.out) k x hx
      obtain ⟨rfl, rfl⟩ : g = g' ∧ off = off' := by cases e1; exact ⟨rfl, rfl⟩
      have hgx : g < w1.heap.size := by have := HN0.out.size; have := HN1.out.size; omega
      have hstore := store_any b cb wb _ _ _ _ k 64 _ x wr hr (get_rep hlt1) (.inr rfl) (vals_get xs k k hlt1) (by omega) hfx
      have e4 : ∀ c, laidBy 1 64 c 0 x = x := fun c => rfl
      rw [e4, vals_set xs k x hlt1 hx] at hstore
      have HST := Lib.hid hstore
      have HXX := Lib.hid hx
      clear hr ha hn hstore e4 HR hx e1
      go_wp2_with fail
      refine HST.out.mono ?_
      rintro e w3 ⟨rfl, hr3, hf3⟩
      have ha3 := HA.out.keep hf3 (by omega)
      have hn3 := HN.out.then hf3 (fun i hi e => by omega)
      have hc3 := (hf3.cell hg1 (by omega) (off + k)).trans hc1
      have ca := ha3.cell k _ (by rw [List.getElem?_map, vals_get _ _ _ hlt1]; rfl)
      have fa := ha3.free
      have ha4 := ha3.set k (.int .u64 (x : Nat))
      rw [map_set, vals_set xs k x hlt1 HXX.out] at ha4
      have hs3 := hf3.size
      have HR3 := Lib.hid hr3
      have HA3 := Lib.hid ha3
      have HA4 := Lib.hid ha4
      have HN3 := Lib.hid hn3
      clear hr3 hf3 ha3 hn3 ha4 HA HN HST hc1
      go_wp2
      go_roundw
      case rel =>
        have hfs := Fr.setCell (S := fun i => i = w1.heap.size) (Fr.refl _ w3) (p := ⟨w1.heap.size, k, none⟩) (fun _ => rfl) (.int .u64 (x : Nat))
        exact ⟨k + 1, by omega, by omega, by go_num, HR3.out.keep hfs (by omega) (by omega) (by omega), HA4.out, HN3.out.then hfs (fun i hi e => by have := HN1.out.size; omega), by simp; omega⟩
      case measure => simp [intOf]; omega
    · obtain ⟨c, hvp⟩ : ∃ c, (vals xs k)[p]? = some c := ⟨(vals xs k)[p]'(by rw [vals_len]; exact hp16), by simp⟩
      have hbx := HX0.out.keep hn id
      have x0 := hbx.cell 0 _ rfl
      have x4 := hbx.cell 4 _ rfl
      have x5 := hbx.cell 5 _ rfl
      have x6 := hbx.cell 6 _ rfl
      have ca := ha.cell p (.int .u64 c) (by rw [List.getElem?_map, hvp]; rfl)
      have hpp := HPP.out
      have HVP := Lib.hid hvp
      have hwi := fun w => within_any d 5 w (by omega) (by omega) hd.1 hd.2
      rw [HQ.out] at hwi
      have hcall := store_any b cb wb _ _ _ _ p 64 c v wr.drew (HR.out.keep ((Fr.refl (fun _ => False) wr).drew) id id id) (get_rep hp16) (.inr rfl) HVP.out (by omega) hv
      generalize hY : laidBy 1 64 c 0 v = y at hcall
      have hcl := hr.fits c (List.mem_of_getElem? hvp)
      have HWI := Lib.hid hwi
      have HCA := Lib.hid hcall
      have tcc : ((c : Int) != (c : Int)) = false := by simp
      clear hr ha hn hvp hwi hcall hbx hY
      have H16 : k < 16 ∨ k = 16 := by omega
      rcases H16 with h16 | h16
      all_goals
        go_wp2_with (go_at_call 15; refine (HWI.out _).mono ?_; rintro e w' ⟨rfl, rfl⟩)
        have hpi : (p : Int) < 16 := by omega
        have hd1 : w1.heap.size < wr.drew.heap.size := HA.out.lt
        have hd2 : w.heap.size < wr.drew.heap.size := by omega
        refine heldStart (fun W => W.cell? ⟨w1.heap.size, p, none⟩ = some (.int .u64 c) ∧ W.cell? ⟨w.heap.size, 6, none⟩ = some (.int .u64 v)) (by kernel_rfl) ?_
        refine wpAnyH_take (i := 0) (v := ?_) rfl (by kernel_rfl) (by kernel_rfl) (by kernel_rfl) (fun _ _ _ h => h) (Or.inl ⟨by rfl, ?_⟩) ⟨ca,x6⟩ ?_
        rotate_left
        · intro w hSw; obtain ⟨s1, s2⟩ := hSw; go_simp; rfl
        refine wpAnyH_take (i := 1) (v := ?_) rfl (by kernel_rfl) (by kernel_rfl) (by kernel_rfl) (fun _ _ _ h => h) (Or.inl ⟨by rfl, ?_⟩) ⟨ca,x6⟩ ?_
        rotate_left
        · intro w hSw; obtain ⟨s1, s2⟩ := hSw; go_simp; rfl
        refine wpAnyH_take (i := 2) (v := ?_) rfl (by kernel_rfl) (by kernel_rfl) (by kernel_rfl) (fun _ _ _ h => h) (Or.inl ⟨by rfl, ?_⟩) ⟨ca,x6⟩ ?_
        rotate_left
        · intro w hSw; obtain ⟨s1, s2⟩ := hSw; go_simp; rfl
        refine wpAnyH_take (i := 3) (v := ?_) rfl (by kernel_rfl) (by kernel_rfl) (by kernel_rfl) (fun _ _ _ h => h) (Or.inl ⟨by rfl, ?_⟩) ⟨ca,x6⟩ ?_
        rotate_left
        · intro w hSw; obtain ⟨s1, s2⟩ := hSw; go_simp; rfl
        refine wpAnyH_take (i := 4) (v := ?_) rfl (by kernel_rfl) (by kernel_rfl) (by kernel_rfl) (fun _ _ _ h => h) (Or.inl ⟨by rfl, ?_⟩) ⟨ca,x6⟩ ?_
        rotate_left
        · intro w hSw; obtain ⟨s1, s2⟩ := hSw; go_simp; rfl
        refine wpAnyH_take (i := 5) (v := ?_) rfl (by kernel_rfl) (by kernel_rfl) (by kernel_rfl) (fun _ _ _ h => h) (Or.inl ⟨by rfl, ?_⟩) ⟨ca,x6⟩ ?_
        rotate_left
        · intro w hSw; obtain ⟨s1, s2⟩ := hSw; go_simp; rfl
        refine wpAnyH_take (i := 6) (v := ?_) rfl (by kernel_rfl) (by kernel_rfl) (by kernel_rfl) (fun _ _ _ h => h) (Or.inl ⟨by rfl, ?_⟩) ⟨ca,x6⟩ ?_
        rotate_left
        · intro w hSw; obtain ⟨s1, s2⟩ := hSw; go_simp; rfl
        refine heldOne (i := 7) (by kernel_rfl) rfl (by rfl) (fun K hK => ?_)
        go_simp
        refine HCA.out.mono ?_
        rintro e w4 ⟨rfl, hr4, hf4'⟩
        have hf4 := ((Fr.refl (fun i => i = b ∨ i = cb) wr).drew).trans hf4'
        have s4 : w4.cell? ⟨w1.heap.size, p, none⟩ = some (.int .u64 c) ∧ w4.cell? ⟨w.heap.size, 6, none⟩ = some (.int .u64 v) := ⟨(hf4'.cell hd1 (by omega) _).trans ca, (hf4'.cell hd2 (by omega) _).trans x6⟩
        refine hK.out _ _ s4 ?_
        clear hK K hf4'
        refine wpAnyH_take (i := 8) (v := ?_) rfl (by kernel_rfl) (by kernel_rfl) (by kernel_rfl) (fun _ _ _ h => h) (Or.inl ⟨by rfl, ?_⟩) s4 ?_
        rotate_left
        · intro w hSw; obtain ⟨s1, s2⟩ := hSw; go_simp; rfl
        refine wpAnyH_take (i := 9) (v := ?_) rfl (by kernel_rfl) (by kernel_rfl) (by kernel_rfl) (fun _ _ _ h => h) (Or.inl ⟨by rfl, ?_⟩) s4 ?_
        rotate_left
        · intro w hSw; obtain ⟨s1, s2⟩ := hSw; go_simp; rfl
        refine wpAnyH_done (by kernel_rfl) ?_ _
        clear s4
        have ha4 := HA.out.keep hf4 (by omega)
        have hn4 := HN.out.then hf4 (fun i hi e => by omega)
        have ca4 := ha4.cell p (.int .u64 c) (by rw [List.getElem?_map, HVP.out]; rfl)
        have HR4 := Lib.hid hr4
        have HA4 := Lib.hid ha4
        have HN4 := Lib.hid hn4
        have hs4 := hf4.size
        clear hr4 hf4 ha4 hn4 HCA ca x0 x4 x5 x6 HWI
        go_wp2_with fail
        go_loopw [11] (fun i wq => ∃ k2 : Nat, k2 ≤ 16 ∧ i = .int .u64 k2 ∧ MemRep wq b cb wb ((vals xs k).set p y) (List.replicate 16 64) 16 (k + 1 + k2) ∧ Arr wq w1.heap.size ((vals xs k).map fun x : Nat => Value.int .u64 x) ∧ New W0 wq ∧ w1.heap.size ≤ wq.heap.size) (fun i _ => 16 - (intOf i).toNat)
        case atStart => exact ⟨0, by omega, rfl, HR4.out, HA4.out, HN4.out, by omega⟩
        case round =>
          clear HR4 HA4 HN4 ca4 hs4
          obtain ⟨k2, hk2, rfl, hr, ha, hn, hsz2⟩ := hrel
          by_cases hlt2 : k2 < 16
          · obtain ⟨c2, hv2⟩ : ∃ c2, ((vals xs k).set p y)[k2]? = some c2 := ⟨((vals xs k).set p y)[k2]'(by rw [List.length_set, vals_len]; exact hlt2), by simp⟩
            have hld := load_keep b cb wb _ _ _ _ k2 64 c2 _ hr (get_rep hlt2) (.inr rfl) hv2 (by omega)
            have HLD := Lib.hid hld
            have HA := Lib.hid ha
            have HN := Lib.hid hn
            have HV2 := Lib.hid hv2
            clear hr ha hn hld hv2
            rcases (show k2 = p ∨ k2 ≠ p by omega) with hkp | hkp
            · have t1 : ((k2 : Int) != (p : Int)) = false := by rw [hkp]; simp
              have HKP := Lib.hid hkp
              clear hkp
              go_wp2_with fail
              refine HLD.out.mono ?_
              rintro e w5 ⟨rfl, hr5, hf5⟩
              have HR5 := Lib.hid hr5
              have HF5 := Lib.hid hf5
              clear hr5 hf5
              go_wp2
              go_roundw
              case rel => exact ⟨k2 + 1, by omega, by go_num, HR5.out, HA.out.keep HF5.out (by omega), HN.out.then HF5.out (fun i hi e => by omega), by have := HF5.out.size; omega⟩
              case measure => simp [intOf]; omega
            · have t1 : ((k2 : Int) != (p : Int)) = true := by rw [bne_iff_ne]; omega
              have t2 : ((c2 : Int) != (c2 : Int)) = false := by simp
              go_wp2_with fail
              refine HLD.out.mono ?_
              rintro e w5 ⟨rfl, hr5, hf5⟩
              have ha5 := HA.out.keep hf5 (by omega)
              have ca5 := ha5.cell k2 (.int .u64 c2) (by have := HV2.out; rw [List.getElem?_set_ne (fun e => hkp e.symm)] at this; rw [List.getElem?_map, this]; rfl)
              have HA5 := Lib.hid ha5
              have HR5 := Lib.hid hr5
              have HF5 := Lib.hid hf5
              clear hr5 hf5 ha5
              go_wp2
              go_roundw
              case rel => exact ⟨k2 + 1, by omega, by go_num, HR5.out, HA5.out, HN.out.then HF5.out (fun i hi e => by omega), by have := HF5.out.size; omega⟩
              case measure => simp [intOf]; omega
          · have HN := Lib.hid hn
            clear hr ha hn
            go_wp2_with fail
            refine (awake_any _).mono ?_
            rintro e w6 ⟨rfl, hn6⟩
            have HN6 := Lib.hid hn6
            clear hn6
            go_wp2
            go_ret
            exact ⟨rfl, (HN0.out.trans HN.out).trans HN6.out⟩

set_option maxRecDepth 100000 in
set_option maxHeartbeats 4000000 in
theorem apart_2 (xs : List Nat) (ao : Option Addr) (cap : Nat) (d a1 a2 a3 : Int) (A o v : Nat) (w : World) (hfit : ∀ x ∈ xs, x < 18446744073709551616) (hc : Nats w ao xs) (hm : xs.length ≤ 9223372036854775807)
    (hd : -9223372036854775808 ≤ d ∧ d ≤ 9223372036854775807) (ho : o < 18446744073709551616) (hv : v < 18446744073709551616) (hA : A < 18446744073709551616) (hq : d % 5 = 2) :
    Calls Try.prog 5 #[.slice ao xs.length cap, .agg #[.int .i64 d, .int .i64 a1, .int .i64 a2, .int .i64 a3, .int .u64 A, .int .u64 o, .int .u64 v]] w fun e w' => e = .returned (.bool true) ∧ New w w' := by
  obtain ⟨L, hL⟩ : ∃ L, xs.length = L := ⟨_, rfl⟩
  rw [hL] at hm ⊢
  obtain ⟨p, hpp, hp16⟩ : ∃ p : Nat, (A : Int) % 16 = (p : Int) ∧ p < 16 := ⟨A % 16, by omega, by omega⟩
  have HPP := Lib.hid hpp
  have HC := Lib.hid hc
  have HFIT := Lib.hid hfit
  have HL := Lib.hid hL
  have HQ := Lib.hid hq
  clear hc hfit hpp hq
  go_enter Try.func5, Try.ntmps5
  go_wp2_with fail
  obtain ⟨W0, hW0⟩ : ∃ W0, w.alloc (.cells #[.int .i64 d, .int .i64 a1, .int .i64 a2, .int .i64 a3, .int .u64 A, .int .u64 o, .int .u64 v] 41) = W0 := ⟨_, rfl⟩
  have hx0 : Arr W0 w.heap.size [.int .i64 d, .int .i64 a1, .int .i64 a2, .int .i64 a3, .int .u64 A, .int .u64 o, .int .u64 v] := by rw [← hW0]; exact Arr.new _ _ _
  have hn0 : New w W0 := by rw [← hW0]; exact (Fr.refl _ _).alloc _
  have hxlt := hx0.lt
  rw [hW0]
  have HX0 := Lib.hid hx0
  have HN0 := Lib.hid hn0
  clear hx0 hn0 hW0 hL
  refine (full_any 16 _ (by omega) (by omega)).mono ?_
  rintro e w1 ⟨b, cb, wb, rfl, ⟨hb, hcb, hwb⟩, hr, hn⟩
  have hbl := hr.hd.lt
  have hcl := hr.cells.lt
  have hwl := hr.widths.lt
  have HR1 := Lib.hid hr
  have HN1 := Lib.hid hn
  clear hr hn
  go_wp2_with fail
  go_loopw [7] (fun i wr => ∃ k : Nat, k ≤ 16 ∧ k ≤ L ∧ i = .int .i64 k ∧ MemRep wr b cb wb (vals xs k) (List.replicate 16 64) 16 k ∧ Arr wr w1.heap.size ((vals xs k).map fun x : Nat => Value.int .u64 x) ∧ New W0 wr ∧ w1.heap.size ≤ wr.heap.size) (fun i _ => 16 - (intOf i).toNat)
  case atStart => exact ⟨0, by omega, by omega, rfl, HR1.out.keep ((Fr.refl (fun _ => False) _).alloc _) id id id, Arr.new _ _ _, HN1.out.alloc _, by simp⟩
  case round =>
    obtain ⟨k, hk, hkl, rfl, hr, ha, hn, hsz⟩ := hrel
    have HR := Lib.hid hr
    have HA := Lib.hid ha
    have HN := Lib.hid hn
    by_cases hlt : k < 16 ∧ k < L
    · obtain ⟨hlt1, hlt2⟩ := hlt
      obtain ⟨x, hx⟩ : ∃ x, xs[k]? = some x := ⟨xs[k]'(by rw [HL.out]; exact hlt2), by simp⟩
      have hfx := HFIT.out x (List.mem_of_getElem? hx)
      obtain ⟨g, off, rfl, hg1, hc1⟩ := (HC.out.keep (HN0.out.trans hn)) k x hx
      obtain ⟨g', off', e1, hg0, _⟩ := (HC.out) k x hx
      obtain ⟨rfl, rfl⟩ : g = g' ∧ off = off' := by cases e1; exact ⟨rfl, rfl⟩
      have hgx : g < w1.heap.size := by have := HN0.out.size; have := HN1.out.size; omega
      have hstore := store_any b cb wb _ _ _ _ k 64 _ x wr hr (get_rep hlt1) (.inr rfl) (vals_get xs k k hlt1) (by omega) hfx
      have e4 : ∀ c, laidBy 1 64 c 0 x = x := fun c => rfl
      rw [e4, vals_set xs k x hlt1 hx] at hstore
      have HST := Lib.hid hstore
      have HXX := Lib.hid hx
      clear hr ha hn hstore e4 HR hx e1
      go_wp2_with fail
      refine HST.out.mono ?_
      rintro e w3 ⟨rfl, hr3, hf3⟩
      have ha3 := HA.out.keep hf3 (by omega)
      have hn3 := HN.out.then hf3 (fun i hi e => by omega)
      have hc3 := (hf3.cell hg1 (by omega) (off + k)).trans hc1
      have ca := ha3.cell k _ (by rw [List.getElem?_map, vals_get _ _ _ hlt1]; rfl)
      have fa := ha3.free
      have ha4 := ha3.set k (.int .u64 (x : Nat))
      rw [map_set, vals_set xs k x hlt1 HXX.out] at ha4
      have hs3 := hf3.size
      have HR3 := Lib.hid hr3
      have HA3 := Lib.hid ha3
      have HA4 := Lib.hid ha4
      have HN3 := Lib.hid hn3
      clear hr3 hf3 ha3 hn3 ha4 HA HN HST hc1
      go_wp2
      go_roundw
      case rel =>
        have hfs := Fr.setCell (S := fun i => i = w1.heap.size) (Fr.refl _ w3) (p := ⟨w1.heap.size, k, none⟩) (fun _ => rfl) (.int .u64 (x : Nat))
        exact ⟨k + 1, by omega, by omega, by go_num, HR3.out.keep hfs (by omega) (by omega) (by omega), HA4.out, HN3.out.then hfs (fun i hi e => by have := HN1.out.size; omega), by simp; omega⟩
      case measure => simp [intOf]; omega
    · obtain ⟨c, hvp⟩ : ∃ c, (vals xs k)[p]? = some c := ⟨(vals xs k)[p]'(by rw [vals_len]; exact hp16), by simp⟩
      have hbx := HX0.out.keep hn id
      have x0 := hbx.cell 0 _ rfl
      have x4 := hbx.cell 4 _ rfl
      have x5 := hbx.cell 5 _ rfl
      have x6 := hbx.cell 6 _ rfl
      have ca := ha.cell p (.int .u64 c) (by rw [List.getElem?_map, hvp]; rfl)
      have hpp := HPP.out
      have HVP := Lib.hid hvp
      have hwi := fun w => within_any d 5 w (by omega) (by omega) hd.1 hd.2
      rw [HQ.out] at hwi
      have hcall := swap_any b cb wb _ _ _ _ p 64 c v wr HR.out (get_rep hp16) (.inr rfl) HVP.out (by omega) hv
      generalize hY : laidBy 2 64 c 0 v = y at hcall
      have hcl := hr.fits c (List.mem_of_getElem? hvp)
      have HWI := Lib.hid hwi
      have HCA := Lib.hid hcall
      have tcc : ((c : Int) != (c : Int)) = false := by simp
      clear hr ha hn hvp hwi hcall hbx hY
      have H16 : k < 16 ∨ k = 16 := by omega
      rcases H16 with h16 | h16
      all_goals
        go_wp2_with (go_at_call 15; refine (HWI.out _).mono ?_; rintro e w' ⟨rfl, rfl⟩)
        refine HCA.out.mono ?_
        rintro e w4 ⟨rfl, hr4, hf4⟩
        have ha4 := HA.out.keep hf4 (by omega)
        have hn4 := HN.out.then hf4 (fun i hi e => by omega)
        have ca4 := ha4.cell p (.int .u64 c) (by rw [List.getElem?_map, HVP.out]; rfl)
        have HR4 := Lib.hid hr4
        have HA4 := Lib.hid ha4
        have HN4 := Lib.hid hn4
        have hs4 := hf4.size
        clear hr4 hf4 ha4 hn4 HCA ca x0 x4 x5 x6 HWI
        go_wp2_with fail
        go_loopw [11] (fun i wq => ∃ k2 : Nat, k2 ≤ 16 ∧ i = .int .u64 k2 ∧ MemRep wq b cb wb ((vals xs k).set p y) (List.replicate 16 64) 16 (k + 1 + k2) ∧ Arr wq w1.heap.size ((vals xs k).map fun x : Nat => Value.int .u64 x) ∧ New W0 wq ∧ w1.heap.size ≤ wq.heap.size) (fun i _ => 16 - (intOf i).toNat)
        case atStart => exact ⟨0, by omega, rfl, HR4.out, HA4.out, HN4.out, by omega⟩
        case round =>
          clear HR4 HA4 HN4 ca4 hs4
          obtain ⟨k2, hk2, rfl, hr, ha, hn, hsz2⟩ := hrel
          by_cases hlt2 : k2 < 16
          · obtain ⟨c2, hv2⟩ : ∃ c2, ((vals xs k).set p y)[k2]? = some c2 := ⟨((vals xs k).set p y)[k2]'(by rw [List.length_set, vals_len]; exact hlt2), by simp⟩
            have hld := load_keep b cb wb _ _ _ _ k2 64 c2 _ hr (get_rep hlt2) (.inr rfl) hv2 (by omega)
            have HLD := Lib.hid hld
            have HA := Lib.hid ha
            have HN := Lib.hid hn
            have HV2 := Lib.hid hv2
            clear hr ha hn hld hv2
            rcases (show k2 = p ∨ k2 ≠ p by omega) with hkp | hkp
            · have t1 : ((k2 : Int) != (p : Int)) = false := by rw [hkp]; simp
              have HKP := Lib.hid hkp
              clear hkp
              go_wp2_with fail
              refine HLD.out.mono ?_
              rintro e w5 ⟨rfl, hr5, hf5⟩
              have HR5 := Lib.hid hr5
              have HF5 := Lib.hid hf5
              clear hr5 hf5
              go_wp2
              go_roundw
              case rel => exact ⟨k2 + 1, by omega, by go_num, HR5.out, HA.out.keep HF5.out (by omega), HN.out.then HF5.out (fun i hi e => by omega), by have := HF5.out.size; omega⟩
              case measure => simp [intOf]; omega
            · have t1 : ((k2 : Int) != (p : Int)) = true := by rw [bne_iff_ne]; omega
              have t2 : ((c2 : Int) != (c2 : Int)) = false := by simp
              go_wp2_with fail
              refine HLD.out.mono ?_
              rintro e w5 ⟨rfl, hr5, hf5⟩
              have ha5 := HA.out.keep hf5 (by omega)
              have ca5 := ha5.cell k2 (.int .u64 c2) (by have := HV2.out; rw [List.getElem?_set_ne (fun e => hkp e.symm)] at this; rw [List.getElem?_map, this]; rfl)
              have HA5 := Lib.hid ha5
              have HR5 := Lib.hid hr5
              have HF5 := Lib.hid hf5
              clear hr5 hf5 ha5
              go_wp2
              go_roundw
              case rel => exact ⟨k2 + 1, by omega, by go_num, HR5.out, HA5.out, HN.out.then HF5.out (fun i hi e => by omega), by have := HF5.out.size; omega⟩
              case measure => simp [intOf]; omega
          · have HN := Lib.hid hn
            clear hr ha hn
            go_wp2_with fail
            refine (awake_any _).mono ?_
            rintro e w6 ⟨rfl, hn6⟩
            have HN6 := Lib.hid hn6
            clear hn6
            go_wp2
            go_ret
            exact ⟨rfl, (HN0.out.trans HN.out).trans HN6.out⟩

set_option maxRecDepth 100000 in
set_option maxHeartbeats 4000000 in
theorem apart_3 (xs : List Nat) (ao : Option Addr) (cap : Nat) (d a1 a2 a3 : Int) (A o v : Nat) (w : World) (hfit : ∀ x ∈ xs, x < 18446744073709551616) (hc : Nats w ao xs) (hm : xs.length ≤ 9223372036854775807)
    (hd : -9223372036854775808 ≤ d ∧ d ≤ 9223372036854775807) (ho : o < 18446744073709551616) (hv : v < 18446744073709551616) (hA : A < 18446744073709551616) (hq : d % 5 = 3) :
    Calls Try.prog 5 #[.slice ao xs.length cap, .agg #[.int .i64 d, .int .i64 a1, .int .i64 a2, .int .i64 a3, .int .u64 A, .int .u64 o, .int .u64 v]] w fun e w' => e = .returned (.bool true) ∧ New w w' := by
  obtain ⟨L, hL⟩ : ∃ L, xs.length = L := ⟨_, rfl⟩
  rw [hL] at hm ⊢
  obtain ⟨p, hpp, hp16⟩ : ∃ p : Nat, (A : Int) % 16 = (p : Int) ∧ p < 16 := ⟨A % 16, by omega, by omega⟩
  have HPP := Lib.hid hpp
  have HC := Lib.hid hc
  have HFIT := Lib.hid hfit
  have HL := Lib.hid hL
  have HQ := Lib.hid hq
  clear hc hfit hpp hq
  go_enter Try.func5, Try.ntmps5
  go_wp2_with fail
  obtain ⟨W0, hW0⟩ : ∃ W0, w.alloc (.cells #[.int .i64 d, .int .i64 a1, .int .i64 a2, .int .i64 a3, .int .u64 A, .int .u64 o, .int .u64 v] 41) = W0 := ⟨_, rfl⟩
  have hx0 : Arr W0 w.heap.size [.int .i64 d, .int .i64 a1, .int .i64 a2, .int .i64 a3, .int .u64 A, .int .u64 o, .int .u64 v] := by rw [← hW0]; exact Arr.new _ _ _
  have hn0 : New w W0 := by rw [← hW0]; exact (Fr.refl _ _).alloc _
  have hxlt := hx0.lt
  rw [hW0]
  have HX0 := Lib.hid hx0
  have HN0 := Lib.hid hn0
  clear hx0 hn0 hW0 hL
  refine (full_any 16 _ (by omega) (by omega)).mono ?_
  rintro e w1 ⟨b, cb, wb, rfl, ⟨hb, hcb, hwb⟩, hr, hn⟩
  have hbl := hr.hd.lt
  have hcl := hr.cells.lt
  have hwl := hr.widths.lt
  have HR1 := Lib.hid hr
  have HN1 := Lib.hid hn
  clear hr hn
  go_wp2_with fail
  go_loopw [7] (fun i wr => ∃ k : Nat, k ≤ 16 ∧ k ≤ L ∧ i = .int .i64 k ∧ MemRep wr b cb wb (vals xs k) (List.replicate 16 64) 16 k ∧ Arr wr w1.heap.size ((vals xs k).map fun x : Nat => Value.int .u64 x) ∧ New W0 wr ∧ w1.heap.size ≤ wr.heap.size) (fun i _ => 16 - (intOf i).toNat)
  case atStart => exact ⟨0, by omega, by omega, rfl, HR1.out.keep ((Fr.refl (fun _ => False) _).alloc _) id id id, Arr.new _ _ _, HN1.out.alloc _, by simp⟩
  case round =>
    obtain ⟨k, hk, hkl, rfl, hr, ha, hn, hsz⟩ := hrel
    have HR := Lib.hid hr
    have HA := Lib.hid ha
    have HN := Lib.hid hn
    by_cases hlt : k < 16 ∧ k < L
    · obtain ⟨hlt1, hlt2⟩ := hlt
      obtain ⟨x, hx⟩ : ∃ x, xs[k]? = some x := ⟨xs[k]'(by rw [HL.out]; exact hlt2), by simp⟩
      have hfx := HFIT.out x (List.mem_of_getElem? hx)
      obtain ⟨g, off, rfl, hg1, hc1⟩ := (HC.out.keep (HN0.out.trans hn)) k x hx
      obtain ⟨g', off', e1, hg0, _⟩ := (HC.out) k x hx
      obtain ⟨rfl, rfl⟩ : g = g' ∧ off = off' := by cases e1; exact ⟨rfl, rfl⟩
      have hgx : g < w1.heap.size := by have := HN0.out.size; have := HN1.out.size; omega
      have hstore := store_any b cb wb _ _ _ _ k 64 _ x wr hr (get_rep hlt1) (.inr rfl) (vals_get xs k k hlt1) (by omega) hfx
      have e4 : ∀ c, laidBy 1 64 c 0 x = x := fun c => rfl
      rw [e4, vals_set xs k x hlt1 hx] at hstore
      have HST := Lib.hid hstore
      have HXX := Lib.hid hx
      clear hr ha hn hstore e4 HR hx e1
      go_wp2_with fail
      refine HST.out.mono ?_
      rintro e w3 ⟨rfl, hr3, hf3⟩
      have ha3 := HA.out.keep hf3 (by omega)
      have hn3 := HN.out.then hf3 (fun i hi e => by omega)
      have hc3 := (hf3.cell hg1 (by omega) (off + k)).trans hc1
      have ca := ha3.cell k _ (by rw [List.getElem?_map, vals_get _ _ _ hlt1]; rfl)
      have fa := ha3.free
      have ha4 := ha3.set k (.int .u64 (x : Nat))
      rw [map_set, vals_set xs k x hlt1 HXX.out] at ha4
      have hs3 := hf3.size
      have HR3 := Lib.hid hr3
      have HA3 := Lib.hid ha3
      have HA4 := Lib.hid ha4
      have HN3 := Lib.hid hn3
      clear hr3 hf3 ha3 hn3 ha4 HA HN HST hc1
      go_wp2
      go_roundw
      case rel =>
        have hfs := Fr.setCell (S := fun i => i = w1.heap.size) (Fr.refl _ w3) (p := ⟨w1.heap.size, k, none⟩) (fun _ => rfl) (.int .u64 (x : Nat))
        exact ⟨k + 1, by omega, by omega, by go_num, HR3.out.keep hfs (by omega) (by omega) (by omega), HA4.out, HN3.out.then hfs (fun i hi e => by have := HN1.out.size; omega), by simp; omega⟩
      case measure => simp [intOf]; omega
    · obtain ⟨c, hvp⟩ : ∃ c, (vals xs k)[p]? = some c := ⟨(vals xs k)[p]'(by rw [vals_len]; exact hp16), by simp⟩
      have hbx := HX0.out.keep hn id
      have x0 := hbx.cell 0 _ rfl
      have x4 := hbx.cell 4 _ rfl
      have x5 := hbx.cell 5 _ rfl
      have x6 := hbx.cell 6 _ rfl
      have ca := ha.cell p (.int .u64 c) (by rw [List.getElem?_map, hvp]; rfl)
      have hpp := HPP.out
      have HVP := Lib.hid hvp
      have hwi := fun w => within_any d 5 w (by omega) (by omega) hd.1 hd.2
      rw [HQ.out] at hwi
      have hcall := add_any b cb wb _ _ _ _ p 64 c v wr HR.out (get_rep hp16) (.inr rfl) HVP.out (by omega) hv
      generalize hY : laidBy 3 64 c 0 v = y at hcall
      have hcl := hr.fits c (List.mem_of_getElem? hvp)
      have HWI := Lib.hid hwi
      have HCA := Lib.hid hcall
      have tcc : ((c : Int) != (c : Int)) = false := by simp
      clear hr ha hn hvp hwi hcall hbx hY
      have H16 : k < 16 ∨ k = 16 := by omega
      rcases H16 with h16 | h16
      all_goals
        go_wp2_with (go_at_call 15; refine (HWI.out _).mono ?_; rintro e w' ⟨rfl, rfl⟩)
        refine HCA.out.mono ?_
        rintro e w4 ⟨rfl, hr4, hf4⟩
        have ha4 := HA.out.keep hf4 (by omega)
        have hn4 := HN.out.then hf4 (fun i hi e => by omega)
        have ca4 := ha4.cell p (.int .u64 c) (by rw [List.getElem?_map, HVP.out]; rfl)
        have HR4 := Lib.hid hr4
        have HA4 := Lib.hid ha4
        have HN4 := Lib.hid hn4
        have hs4 := hf4.size
        clear hr4 hf4 ha4 hn4 HCA ca x0 x4 x5 x6 HWI
        go_wp2_with fail
        go_loopw [11] (fun i wq => ∃ k2 : Nat, k2 ≤ 16 ∧ i = .int .u64 k2 ∧ MemRep wq b cb wb ((vals xs k).set p y) (List.replicate 16 64) 16 (k + 1 + k2) ∧ Arr wq w1.heap.size ((vals xs k).map fun x : Nat => Value.int .u64 x) ∧ New W0 wq ∧ w1.heap.size ≤ wq.heap.size) (fun i _ => 16 - (intOf i).toNat)
        case atStart => exact ⟨0, by omega, rfl, HR4.out, HA4.out, HN4.out, by omega⟩
        case round =>
          clear HR4 HA4 HN4 ca4 hs4
          obtain ⟨k2, hk2, rfl, hr, ha, hn, hsz2⟩ := hrel
          by_cases hlt2 : k2 < 16
          · obtain ⟨c2, hv2⟩ : ∃ c2, ((vals xs k).set p y)[k2]? = some c2 := ⟨((vals xs k).set p y)[k2]'(by rw [List.length_set, vals_len]; exact hlt2), by simp⟩
            have hld := load_keep b cb wb _ _ _ _ k2 64 c2 _ hr (get_rep hlt2) (.inr rfl) hv2 (by omega)
            have HLD := Lib.hid hld
            have HA := Lib.hid ha
            have HN := Lib.hid hn
            have HV2 := Lib.hid hv2
            clear hr ha hn hld hv2
            rcases (show k2 = p ∨ k2 ≠ p by omega) with hkp | hkp
            · have t1 : ((k2 : Int) != (p : Int)) = false := by rw [hkp]; simp
              have HKP := Lib.hid hkp
              clear hkp
              go_wp2_with fail
              refine HLD.out.mono ?_
              rintro e w5 ⟨rfl, hr5, hf5⟩
              have HR5 := Lib.hid hr5
              have HF5 := Lib.hid hf5
              clear hr5 hf5
              go_wp2
              go_roundw
              case rel => exact ⟨k2 + 1, by omega, by go_num, HR5.out, HA.out.keep HF5.out (by omega), HN.out.then HF5.out (fun i hi e => by omega), by have := HF5.out.size; omega⟩
              case measure => simp [intOf]; omega
            · have t1 : ((k2 : Int) != (p : Int)) = true := by rw [bne_iff_ne]; omega
              have t2 : ((c2 : Int) != (c2 : Int)) = false := by simp
              go_wp2_with fail
              refine HLD.out.mono ?_
              rintro e w5 ⟨rfl, hr5, hf5⟩
              have ha5 := HA.out.keep hf5 (by omega)
              have ca5 := ha5.cell k2 (.int .u64 c2) (by have := HV2.out; rw [List.getElem?_set_ne (fun e => hkp e.symm)] at this; rw [List.getElem?_map, this]; rfl)
              have HA5 := Lib.hid ha5
              have HR5 := Lib.hid hr5
              have HF5 := Lib.hid hf5
              clear hr5 hf5 ha5
              go_wp2
              go_roundw
              case rel => exact ⟨k2 + 1, by omega, by go_num, HR5.out, HA5.out, HN.out.then HF5.out (fun i hi e => by omega), by have := HF5.out.size; omega⟩
              case measure => simp [intOf]; omega
          · have HN := Lib.hid hn
            clear hr ha hn
            go_wp2_with fail
            refine (awake_any _).mono ?_
            rintro e w6 ⟨rfl, hn6⟩
            have HN6 := Lib.hid hn6
            clear hn6
            go_wp2
            go_ret
            exact ⟨rfl, (HN0.out.trans HN.out).trans HN6.out⟩

set_option maxRecDepth 100000 in
set_option maxHeartbeats 4000000 in
theorem apart_4 (xs : List Nat) (ao : Option Addr) (cap : Nat) (d a1 a2 a3 : Int) (A o v : Nat) (w : World) (hfit : ∀ x ∈ xs, x < 18446744073709551616) (hc : Nats w ao xs) (hm : xs.length ≤ 9223372036854775807)
    (hd : -9223372036854775808 ≤ d ∧ d ≤ 9223372036854775807) (ho : o < 18446744073709551616) (hv : v < 18446744073709551616) (hA : A < 18446744073709551616) (hq : d % 5 = 4) :
    Calls Try.prog 5 #[.slice ao xs.length cap, .agg #[.int .i64 d, .int .i64 a1, .int .i64 a2, .int .i64 a3, .int .u64 A, .int .u64 o, .int .u64 v]] w fun e w' => e = .returned (.bool true) ∧ New w w' := by
  obtain ⟨L, hL⟩ : ∃ L, xs.length = L := ⟨_, rfl⟩
  rw [hL] at hm ⊢
  obtain ⟨p, hpp, hp16⟩ : ∃ p : Nat, (A : Int) % 16 = (p : Int) ∧ p < 16 := ⟨A % 16, by omega, by omega⟩
  have HPP := Lib.hid hpp
  have HC := Lib.hid hc
  have HFIT := Lib.hid hfit
  have HL := Lib.hid hL
  have HQ := Lib.hid hq
  clear hc hfit hpp hq
  go_enter Try.func5, Try.ntmps5
  go_wp2_with fail
  obtain ⟨W0, hW0⟩ : ∃ W0, w.alloc (.cells #[.int .i64 d, .int .i64 a1, .int .i64 a2, .int .i64 a3, .int .u64 A, .int .u64 o, .int .u64 v] 41) = W0 := ⟨_, rfl⟩
  have hx0 : Arr W0 w.heap.size [.int .i64 d, .int .i64 a1, .int .i64 a2, .int .i64 a3, .int .u64 A, .int .u64 o, .int .u64 v] := by rw [← hW0]; exact Arr.new _ _ _
  have hn0 : New w W0 := by rw [← hW0]; exact (Fr.refl _ _).alloc _
  have hxlt := hx0.lt
  rw [hW0]
  have HX0 := Lib.hid hx0
  have HN0 := Lib.hid hn0
  clear hx0 hn0 hW0 hL
  refine (full_any 16 _ (by omega) (by omega)).mono ?_
  rintro e w1 ⟨b, cb, wb, rfl, ⟨hb, hcb, hwb⟩, hr, hn⟩
  have hbl := hr.hd.lt
  have hcl := hr.cells.lt
  have hwl := hr.widths.lt
  have HR1 := Lib.hid hr
  have HN1 := Lib.hid hn
  clear hr hn
  go_wp2_with fail
  go_loopw [7] (fun i wr => ∃ k : Nat, k ≤ 16 ∧ k ≤ L ∧ i = .int .i64 k ∧ MemRep wr b cb wb (vals xs k) (List.replicate 16 64) 16 k ∧ Arr wr w1.heap.size ((vals xs k).map fun x : Nat => Value.int .u64 x) ∧ New W0 wr ∧ w1.heap.size ≤ wr.heap.size) (fun i _ => 16 - (intOf i).toNat)
  case atStart => exact ⟨0, by omega, by omega, rfl, HR1.out.keep ((Fr.refl (fun _ => False) _).alloc _) id id id, Arr.new _ _ _, HN1.out.alloc _, by simp⟩
  case round =>
    obtain ⟨k, hk, hkl, rfl, hr, ha, hn, hsz⟩ := hrel
    have HR := Lib.hid hr
    have HA := Lib.hid ha
    have HN := Lib.hid hn
    by_cases hlt : k < 16 ∧ k < L
    · obtain ⟨hlt1, hlt2⟩ := hlt
      obtain ⟨x, hx⟩ : ∃ x, xs[k]? = some x := ⟨xs[k]'(by rw [HL.out]; exact hlt2), by simp⟩
      have hfx := HFIT.out x (List.mem_of_getElem? hx)
      obtain ⟨g, off, rfl, hg1, hc1⟩ := (HC.out.keep (HN0.out.trans hn)) k x hx
      obtain ⟨g', off', e1, hg0, _⟩ := (HC.out) k x hx
      obtain ⟨rfl, rfl⟩ : g = g' ∧ off = off' := by cases e1; exact ⟨rfl, rfl⟩
      have hgx : g < w1.heap.size := by have := HN0.out.size; have := HN1.out.size; omega
      have hstore := store_any b cb wb _ _ _ _ k 64 _ x wr hr (get_rep hlt1) (.inr rfl) (vals_get xs k k hlt1) (by omega) hfx
      have e4 : ∀ c, laidBy 1 64 c 0 x = x := fun c => rfl
      rw [e4, vals_set xs k x hlt1 hx] at hstore
      have HST := Lib.hid hstore
      have HXX := Lib.hid hx
      clear hr ha hn hstore e4 HR hx e1
      go_wp2_with fail
      refine HST.out.mono ?_
      rintro e w3 ⟨rfl, hr3, hf3⟩
      have ha3 := HA.out.keep hf3 (by omega)
      have hn3 := HN.out.then hf3 (fun i hi e => by omega)
      have hc3 := (hf3.cell hg1 (by omega) (off + k)).trans hc1
      have ca := ha3.cell k _ (by rw [List.getElem?_map, vals_get _ _ _ hlt1]; rfl)
      have fa := ha3.free
      have ha4 := ha3.set k (.int .u64 (x : Nat))
      rw [map_set, vals_set xs k x hlt1 HXX.out] at ha4
      have hs3 := hf3.size
      have HR3 := Lib.hid hr3
      have HA3 := Lib.hid ha3
      have HA4 := Lib.hid ha4
      have HN3 := Lib.hid hn3
      clear hr3 hf3 ha3 hn3 ha4 HA HN HST hc1
      go_wp2
      go_roundw
      case rel =>
        have hfs := Fr.setCell (S := fun i => i = w1.heap.size) (Fr.refl _ w3) (p := ⟨w1.heap.size, k, none⟩) (fun _ => rfl) (.int .u64 (x : Nat))
        exact ⟨k + 1, by omega, by omega, by go_num, HR3.out.keep hfs (by omega) (by omega) (by omega), HA4.out, HN3.out.then hfs (fun i hi e => by have := HN1.out.size; omega), by simp; omega⟩
      case measure => simp [intOf]; omega
    · obtain ⟨c, hvp⟩ : ∃ c, (vals xs k)[p]? = some c := ⟨(vals xs k)[p]'(by rw [vals_len]; exact hp16), by simp⟩
      have hbx := HX0.out.keep hn id
      have x0 := hbx.cell 0 _ rfl
      have x4 := hbx.cell 4 _ rfl
      have x5 := hbx.cell 5 _ rfl
      have x6 := hbx.cell 6 _ rfl
      have ca := ha.cell p (.int .u64 c) (by rw [List.getElem?_map, hvp]; rfl)
      have hpp := HPP.out
      have HVP := Lib.hid hvp
      have hwi := fun w => within_any d 5 w (by omega) (by omega) hd.1 hd.2
      rw [HQ.out] at hwi
      have hcall := cas_any b cb wb _ _ _ _ p 64 c o v wr HR.out (get_rep hp16) (.inr rfl) HVP.out (by omega) hv ho
      generalize hY : laidBy 4 64 c o v = y at hcall
      have hcl := hr.fits c (List.mem_of_getElem? hvp)
      have HWI := Lib.hid hwi
      have HCA := Lib.hid hcall
      have tcc : ((c : Int) != (c : Int)) = false := by simp
      clear hr ha hn hvp hwi hcall hbx hY
      have H16 : k < 16 ∨ k = 16 := by omega
      rcases H16 with h16 | h16
      all_goals
        go_wp2_with (go_at_call 15; refine (HWI.out _).mono ?_; rintro e w' ⟨rfl, rfl⟩)
        refine HCA.out.mono ?_
        rintro e w4 ⟨rfl, hr4, hf4⟩
        have ha4 := HA.out.keep hf4 (by omega)
        have hn4 := HN.out.then hf4 (fun i hi e => by omega)
        have ca4 := ha4.cell p (.int .u64 c) (by rw [List.getElem?_map, HVP.out]; rfl)
        have HR4 := Lib.hid hr4
        have HA4 := Lib.hid ha4
        have HN4 := Lib.hid hn4
        have hs4 := hf4.size
        clear hr4 hf4 ha4 hn4 HCA ca x0 x4 x5 x6 HWI
        go_wp2_with fail
        go_loopw [11] (fun i wq => ∃ k2 : Nat, k2 ≤ 16 ∧ i = .int .u64 k2 ∧ MemRep wq b cb wb ((vals xs k).set p y) (List.replicate 16 64) 16 (k + 1 + k2) ∧ Arr wq w1.heap.size ((vals xs k).map fun x : Nat => Value.int .u64 x) ∧ New W0 wq ∧ w1.heap.size ≤ wq.heap.size) (fun i _ => 16 - (intOf i).toNat)
        case atStart => exact ⟨0, by omega, rfl, HR4.out, HA4.out, HN4.out, by omega⟩
        case round =>
          clear HR4 HA4 HN4 ca4 hs4
          obtain ⟨k2, hk2, rfl, hr, ha, hn, hsz2⟩ := hrel
          by_cases hlt2 : k2 < 16
          · obtain ⟨c2, hv2⟩ : ∃ c2, ((vals xs k).set p y)[k2]? = some c2 := ⟨((vals xs k).set p y)[k2]'(by rw [List.length_set, vals_len]; exact hlt2), by simp⟩
            have hld := load_keep b cb wb _ _ _ _ k2 64 c2 _ hr (get_rep hlt2) (.inr rfl) hv2 (by omega)
            have HLD := Lib.hid hld
            have HA := Lib.hid ha
            have HN := Lib.hid hn
            have HV2 := Lib.hid hv2
            clear hr ha hn hld hv2
            rcases (show k2 = p ∨ k2 ≠ p by omega) with hkp | hkp
            · have t1 : ((k2 : Int) != (p : Int)) = false := by rw [hkp]; simp
              have HKP := Lib.hid hkp
              clear hkp
              go_wp2_with fail
              refine HLD.out.mono ?_
              rintro e w5 ⟨rfl, hr5, hf5⟩
              have HR5 := Lib.hid hr5
              have HF5 := Lib.hid hf5
              clear hr5 hf5
              go_wp2
              go_roundw
              case rel => exact ⟨k2 + 1, by omega, by go_num, HR5.out, HA.out.keep HF5.out (by omega), HN.out.then HF5.out (fun i hi e => by omega), by have := HF5.out.size; omega⟩
              case measure => simp [intOf]; omega
            · have t1 : ((k2 : Int) != (p : Int)) = true := by rw [bne_iff_ne]; omega
              have t2 : ((c2 : Int) != (c2 : Int)) = false := by simp
              go_wp2_with fail
              refine HLD.out.mono ?_
              rintro e w5 ⟨rfl, hr5, hf5⟩
              have ha5 := HA.out.keep hf5 (by omega)
              have ca5 := ha5.cell k2 (.int .u64 c2) (by have := HV2.out; rw [List.getElem?_set_ne (fun e => hkp e.symm)] at this; rw [List.getElem?_map, this]; rfl)
              have HA5 := Lib.hid ha5
              have HR5 := Lib.hid hr5
              have HF5 := Lib.hid hf5
              clear hr5 hf5 ha5
              go_wp2
              go_roundw
              case rel => exact ⟨k2 + 1, by omega, by go_num, HR5.out, HA5.out, HN.out.then HF5.out (fun i hi e => by omega), by have := HF5.out.size; omega⟩
              case measure => simp [intOf]; omega
          · have HN := Lib.hid hn
            clear hr ha hn
            go_wp2_with fail
            refine (awake_any _).mono ?_
            rintro e w6 ⟨rfl, hn6⟩
            have HN6 := Lib.hid hn6
            clear hn6
            go_wp2
            go_ret
            exact ⟨rfl, (HN0.out.trans HN.out).trans HN6.out⟩

theorem apart_walk (xs : List Nat) (ao : Option Addr) (cap : Nat) (d a1 a2 a3 : Int) (A o v : Nat) (w : World) (hfit : ∀ x ∈ xs, x < 18446744073709551616) (hc : Nats w ao xs) (hm : xs.length ≤ 9223372036854775807)
    (hd : -9223372036854775808 ≤ d ∧ d ≤ 9223372036854775807) (ho : o < 18446744073709551616) (hv : v < 18446744073709551616) (hA : A < 18446744073709551616) :
    Calls Try.prog 5 #[.slice ao xs.length cap, .agg #[.int .i64 d, .int .i64 a1, .int .i64 a2, .int .i64 a3, .int .u64 A, .int .u64 o, .int .u64 v]] w fun e w' => e = .returned (.bool true) ∧ New w w' := by
  rcases (show d % 5 = 0 ∨ d % 5 = 1 ∨ d % 5 = 2 ∨ d % 5 = 3 ∨ d % 5 = 4 by omega) with h | h | h | h | h
  · exact apart_0 xs ao cap d a1 a2 a3 A o v w hfit hc hm hd ho hv hA h
  · exact apart_1 xs ao cap d a1 a2 a3 A o v w hfit hc hm hd ho hv hA h
  · exact apart_2 xs ao cap d a1 a2 a3 A o v w hfit hc hm hd ho hv hA h
  · exact apart_3 xs ao cap d a1 a2 a3 A o v w hfit hc hm hd ho hv hA h
  · exact apart_4 xs ao cap d a1 a2 a3 A o v w hfit hc hm hd ho hv hA h

end Go.Proofs.Ytfppipbdmjnbcaa
