/- The queues, filled. -/
import Derived.Test.YteeckkkbmlkkiaaDoorWaitE
import Derived.Test.YteeckkkbmlkkiaaDoorNums
namespace Go.Proofs.YteeckkkbmlkkiaaDoor
open Go.RowKit Go.Maps

/-- The first k: ids 1, 2 .. on addresses, with masks. -/
structure Fil (xs ms : List Nat) (k : Nat) (L : List Sl) : Prop where
  len : L.length = k
  at' : ∀ (i : Nat) (s : Sl), L[i]? = some s → s.id = i + 1 ∧ s.addr = xs.getD i 0 % 5 ∧ s.mask = ms.getD i 1
theorem Fil.snoc {xs ms : List Nat} {k : Nat} {L : List Sl} (h : Fil xs ms k L) {s : Sl} (h1 : s.id = k + 1) (h2 : s.addr = xs.getD k 0 % 5) (h3 : s.mask = ms.getD k 1) : Fil xs ms (k + 1) (L ++ [s]) :=
  ⟨by simp [h.len], fun i t ht => by
    by_cases hi : i < L.length
    · rw [List.getElem?_append_left hi] at ht; exact h.at' i t ht
    · have hl := (List.getElem?_eq_some_iff.1 ht).1
      have := h.len
      simp at hl
      obtain rfl : i = k := by omega
      rw [List.getElem?_append_right (by omega), show i - L.length = 0 by omega] at ht
      obtain rfl : s = t := by simpa using ht
      exact ⟨h1, h2, h3⟩⟩
theorem Fil.hasId {xs ms : List Nat} {k : Nat} {L : List Sl} (h : Fil xs ms k L) : hasId L (k + 1) = false := by
  rw [Bool.eq_false_iff]
  intro hh
  obtain ⟨s, hs, e⟩ := hasId_iff.1 hh
  obtain ⟨i, hi⟩ := List.mem_iff_getElem?.1 hs
  have h1 := (h.at' i s hi).1
  have h2 := (List.getElem?_eq_some_iff.1 hi).1
  have := h.len
  omega
theorem tmod5 (x : Nat) : (x : Int).tmod 5 = ((x % 5 : Nat) : Int) := by
  rw [Int.tmod_eq_emod_of_nonneg (by omega)]; omega

set_option maxRecDepth 100000 in
set_option maxHeartbeats 4000000 in
theorem filled_any (xs ms : List Nat) (ao bo : Option Addr) (ca cb : Nat) (w : World) (hx : Nats w ao xs) (hm : Nats w bo ms) (hl : xs.length ≤ 60) (hml : ms.length ≤ 9223372036854775807) (hxf : ∀ x ∈ xs, x < 18446744073709551616) (hmf : ∀ x ∈ ms, x < 18446744073709551616) :
    Calls Tryd.prog 12 #[.slice ao xs.length ca, .slice bo ms.length cb] w fun e w' => ∃ qb lb mb L, e = .returned (.pointer (some ⟨qb, 0, none⟩)) ∧ QRep w' qb lb mb 4 L ∧ Fil xs ms xs.length L ∧ Fresh w.heap.size qb lb mb L ∧ New w w' := by
  obtain ⟨X, hX⟩ : ∃ X, xs.length = X := ⟨_, rfl⟩
  obtain ⟨M, hM⟩ : ∃ M, ms.length = M := ⟨_, rfl⟩
  rw [hX] at hl ⊢
  rw [hM] at hml ⊢
  have HX := Lib.hid hx
  have HM := Lib.hid hm
  have HXL := Lib.hid hX
  have HML := Lib.hid hM
  have HXF := Lib.hid hxf
  have HMF := Lib.hid hmf
  clear hx hm hX hM hxf hmf
  go_enter Tryd.func12, Tryd.ntmps12
  go_wp2_with fail
  refine (new_any 4 _ (by omega) (by omega)).mono ?_
  rintro e w1 ⟨qb, lb, mb, rfl, hfr, hr, hn1⟩
  have HR := Lib.hid hr
  have HN := Lib.hid hn1
  have HF := Lib.hid (show Fresh w.heap.size qb lb mb [] from hfr)
  clear hr hn1 hfr
  go_wp2_with fail
  go_loopw [7] (fun i wr => ∃ (k : Nat) (L : List Sl), k ≤ X ∧ i = .int .i64 k ∧ QRep wr qb lb mb 4 L ∧ Fil xs ms k L ∧ Fresh w.heap.size qb lb mb L ∧ New w wr) (fun i _ => X - (intOf i).toNat)
  case atStart => exact ⟨0, [], by omega, rfl, HR.out, ⟨rfl, fun i s h => by simp at h⟩, HF.out, HN.out⟩
  case round =>
    clear HR HN HF
    obtain ⟨k, L, hk, rfl, hr, hfil, hfr, hnr⟩ := hrel
    by_cases hlt : k < X
    · have hxk : xs[k]? = some (xs.getD k 0) := by
        have : k < xs.length := by rw [HXL.out]; exact hlt
        rw [List.getD_eq_getElem?_getD, List.getElem?_eq_getElem this]; rfl
      obtain ⟨g, off, rfl, hg1, hc1⟩ := HX.out.keep hnr k _ hxk
      have hxb := HXF.out _ (List.mem_of_getElem? hxk)
      have HR := Lib.hid hr
      have HFI := Lib.hid hfil
      have HFR := Lib.hid hfr
      have HN := Lib.hid hnr
      have HXK := Lib.hid hxk
      generalize hxv : xs.getD k 0 = x at hc1 hxb
      have HXV := Lib.hid hxv
      clear hr hfil hfr hxk hxv
      by_cases hmk : k < M
      · have hmk1 : ms[k]? = some (ms.getD k 1) := by
          have : k < ms.length := by rw [HML.out]; exact hmk
          rw [List.getD_eq_getElem?_getD, List.getElem?_eq_getElem this]; rfl
        obtain ⟨g2, off2, rfl, hg2, hc2⟩ := HM.out.keep hnr k _ hmk1
        have hmb := HMF.out _ (List.mem_of_getElem? hmk1)
        generalize hmv : ms.getD k 1 = m at hc2 hmb
        have HMV := Lib.hid hmv
        clear hmk1 hmv hnr
        go_wp2_with fail
        rw [show (k : Int) + 1 = ((k + 1 : Nat) : Int) by omega, show (x : Int) % 5 = ((x % 5 : Nat) : Int) by omega]
        refine (put_ok qb lb mb 4 L (k + 1) (x % 5) m wr HR.out (by omega) HFI.out.hasId (by omega) (by omega) (by omega) (by rw [HFI.out.len]; omega)).mono ?_
        rintro e w2 ⟨rfl, b, hb, hr2, hf2⟩
        have HN2 := Lib.hid (New.fresh HN.out hf2 HFR.out)
        have HFR2 := Lib.hid (HFR.out.snoc (s := ⟨k + 1, x % 5, m, b⟩) (Nat.le_trans HN.out.size hb))
        have HFI2 := Lib.hid (HFI.out.snoc (s := ⟨k + 1, x % 5, m, b⟩) rfl (by rw [HXV.out]) (by rw [HMV.out]))
        have HR2 := Lib.hid hr2
        clear hr2 hf2 hb HR HFI HFR HN
        go_wp2_with fail
        go_roundw
        case rel => exact ⟨k + 1, _, by omega, by go_num, HR2.out, HFI2.out, HFR2.out, HN2.out⟩
        case measure => simp [intOf]; omega
      · have HMV := Lib.hid (show ms.getD k 1 = 1 by rw [List.getD_eq_getElem?_getD, List.getElem?_eq_none (by rw [HML.out]; omega)]; rfl)
        clear hnr
        go_wp2_with fail
        rw [show (k : Int) + 1 = ((k + 1 : Nat) : Int) by omega, show (x : Int) % 5 = ((x % 5 : Nat) : Int) by omega]
        refine (put_ok qb lb mb 4 L (k + 1) (x % 5) 1 wr HR.out (by omega) HFI.out.hasId (by omega) (by omega) (by omega) (by rw [HFI.out.len]; omega)).mono ?_
        rintro e w2 ⟨rfl, b, hb, hr2, hf2⟩
        have HN2 := Lib.hid (New.fresh HN.out hf2 HFR.out)
        have HFR2 := Lib.hid (HFR.out.snoc (s := ⟨k + 1, x % 5, 1, b⟩) (Nat.le_trans HN.out.size hb))
        have HFI2 := Lib.hid (HFI.out.snoc (s := ⟨k + 1, x % 5, 1, b⟩) rfl (by rw [HXV.out]) (by rw [HMV.out]))
        have HR2 := Lib.hid hr2
        clear hr2 hf2 hb HR HFI HFR HN
        go_wp2_with fail
        go_roundw
        case rel => exact ⟨k + 1, _, by omega, by go_num, HR2.out, HFI2.out, HFR2.out, HN2.out⟩
        case measure => simp [intOf]; omega
    · obtain rfl : k = X := by omega
      have HR := Lib.hid hr
      clear hr
      go_wp2
      go_ret
      exact ⟨qb, lb, mb, L, rfl, HR.out, hfil, hfr, hnr⟩

end Go.Proofs.YteeckkkbmlkkiaaDoor
