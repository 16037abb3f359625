/- What a tick told is new memory: the statement's walk. -/
import Derived.Test.YtafeopcbfgmjkaaClockC
import Derived.Test.YtafeopcbfgmjkaaWithin
import Derived.Test.YtafeopcbfgmjkaaSpoil
namespace Go.Proofs.Ytafeopcbfgmjkaa
open Go.RowKit Go.Maps

theorem ins_seg {t : Th} : ∀ {A B : List Th}, (∀ a ∈ A, ¬ t.d < a.d) → (∀ b ∈ B, t.d < b.d) → ins t (A ++ B) = A ++ t :: B
  | [], [], _, _ => rfl
  | [], b :: r, _, h => by
    show ins t (b :: r) = _
    unfold ins; rw [if_pos (h b (List.mem_cons_self ..))]; rfl
  | a :: r, B, h, hb => by
    show ins t (a :: (r ++ B)) = _
    unfold ins
    rw [if_neg (h a (List.mem_cons_self ..)), ins_seg (fun x hx => h x (List.mem_cons_of_mem _ hx)) hb]; rfl
def segA (j : Nat) : List Th := (List.range j).map fun i => ⟨1, i + 1, 2 * i + 1⟩
def segB (j : Nat) : List Th := (List.range j).map fun i => ⟨2, i + 51, 2 * i + 2⟩
theorem segA_succ (j : Nat) : segA (j + 1) = segA j ++ [⟨1, j + 1, 2 * j + 1⟩] := by simp [segA, List.range_succ]
theorem segB_succ (j : Nat) : segB (j + 1) = segB j ++ [⟨2, j + 51, 2 * j + 2⟩] := by simp [segB, List.range_succ]
theorem segA_mem {j : Nat} {t : Th} (h : t ∈ segA j) : t.d = 1 ∧ 1 ≤ t.what ∧ t.what ≤ j := by
  obtain ⟨i, hi, rfl⟩ := List.mem_map.1 h
  have := List.mem_range.1 hi
  exact ⟨rfl, by show 1 ≤ i + 1; omega, by show i + 1 ≤ j; omega⟩
theorem segB_mem {j : Nat} {t : Th} (h : t ∈ segB j) : t.d = 2 ∧ 51 ≤ t.what ∧ t.what ≤ j + 50 := by
  obtain ⟨i, hi, rfl⟩ := List.mem_map.1 h
  have := List.mem_range.1 hi
  exact ⟨rfl, by show 51 ≤ i + 51; omega, by show i + 51 ≤ j + 50; omega⟩
theorem seg_no {A B u : Nat} (h : (A < u ∧ u < 51) ∨ (B + 50 < u ∧ A ≤ 50 ∧ 50 < u)) : hasW (segA A ++ segB B) u = false := by
  rw [Bool.eq_false_iff]
  intro hh
  obtain ⟨s, hs, e⟩ := hasW_iff.1 hh
  rcases List.mem_append.1 hs with hs | hs
  · have := segA_mem hs; omega
  · have := segB_mem hs; omega
theorem ins_end {t : Th} {A : List Th} (h : ∀ a ∈ A, ¬ t.d < a.d) : ins t A = A ++ [t] := by
  have := ins_seg (t := t) (A := A) (B := []) h (fun b hb => by simp at hb)
  simpa using this
theorem due_seg (j : Nat) : due (segA j ++ segB j) 1 = segA j ∧ rest (segA j ++ segB j) 1 = segB j ∧ due (segB j) 2 = segB j ∧ rest (segB j) 2 = [] := by
  have h1 := tick_split (S := segA j ++ segB j) (now := 1) (k := (segA j).length) (fun t ht => by rw [List.take_left] at ht; have := segA_mem ht; omega) (fun t ht => by
    rw [List.drop_left] at ht
    have := segB_mem (List.mem_of_head? ht); omega)
  rw [List.take_left, List.drop_left] at h1
  have h2 := tick_split (S := segB j) (now := 2) (k := (segB j).length) (fun t ht => by rw [List.take_length] at ht; have := segB_mem ht; omega) (fun t ht => by rw [List.drop_length] at ht; simp at ht)
  rw [List.take_length, List.drop_length] at h2
  exact ⟨h1.1.symm, h1.2.symm, h2.1.symm, h2.2.symm⟩
theorem segB_get (j i : Nat) (h : i < j) : ((segB j).map Th.what)[i]? = some (i + 51) := by simp [segB, h]

set_option maxRecDepth 100000 in
set_option maxHeartbeats 4000000 in
theorem own_walk (nn : Int) (w : World) (h1 : -9223372036854775808 ≤ nn) (h2 : nn ≤ 9223372036854775807) :
    Calls Try.prog 3 #[.int .i64 nn] w fun e w' => e = .returned (.bool true) ∧ New w w' := by
  obtain ⟨k, hk0, hk1⟩ := within_nat nn 20 (by omega)
  have HK := Lib.hid hk0
  clear hk0
  go_enter Try.func3, Try.ntmps3
  go_wp2_with fail
  refine (cnew_any _).mono ?_
  rintro e w1 ⟨cb, hb, mb, bm, rfl, hfr, hr, hn1⟩
  have HR := Lib.hid hr
  have HN := Lib.hid hn1
  have HF := Lib.hid (show CFresh w.heap.size cb hb mb bm _ from hfr)
  clear hr hn1 hfr
  go_wp2_with fail
  refine (within_any nn 20 _ (by omega) (by omega) (by omega) (by omega)).mono ?_
  rintro e w' ⟨rfl, rfl⟩
  rw [HK.out]
  go_wp2_with fail
  go_loopw [5] (fun i wr => ∃ (j : Nat) (v : Value), j ≤ k ∧ i = .int .i64 j ∧ ClockRep wr cb hb mb bm v (segA j ++ segB j) (2 * j) 0 ∧ CFresh w.heap.size cb hb mb bm v ∧ New w wr) (fun i _ => k - (intOf i).toNat)
  case atStart => exact ⟨0, _, by omega, rfl, HR.out, HF.out, HN.out⟩
  case round =>
    clear HR HF HN
    obtain ⟨j, v, hj, rfl, hr, hfr, hn⟩ := hrel
    have HR := Lib.hid hr
    have HF := Lib.hid hfr
    have HN := Lib.hid hn
    clear hr hfr hn
    by_cases hlt : j < k
    · have hll : (segA j ++ segB j).length ≤ 40 := by simp [segA, segB]; omega
      go_wp2_with fail
      rw [show (j : Int) + 1 = ((j + 1 : Nat) : Int) by omega]
      refine (arm_ok cb hb mb bm v (segA j ++ segB j) (2 * j) 0 (j + 1) 1 wr HR.out (by omega) (by omega) (by omega) (seg_no (.inl (by omega))) (by omega) (by omega)).mono ?_
      rintro e w2 ⟨rfl, v2, hr2, ho2, hf2⟩
      have HF2 := Lib.hid (HF.out.turn ho2 HN.out.size)
      have HN2 := Lib.hid (newC HN.out hf2 HF.out)
      rw [ins_seg (fun a ha => by have := segA_mem ha; show ¬ 1 < a.d; omega) (fun b hb => by have := segB_mem hb; show 1 < b.d; omega), List.append_cons, ← segA_succ] at hr2
      have HR2 := Lib.hid hr2
      clear hr2 ho2 hf2 HF HN HR
      go_wp2_with fail
      rw [show (j : Int) + 51 = ((j + 51 : Nat) : Int) by omega]
      refine (arm_ok cb hb mb bm v2 (segA (j + 1) ++ segB j) (2 * j + 1) 0 (j + 51) 2 w2 HR2.out (by omega) (by omega) (by omega) (seg_no (.inr (by omega))) (by omega) (by simp [segA, segB]; omega)).mono ?_
      rintro e w3 ⟨rfl, v3, hr3, ho3, hf3⟩
      have HF3 := Lib.hid (HF2.out.turn ho3 HN2.out.size)
      have HN3 := Lib.hid (newC HN2.out hf3 HF2.out)
      rw [ins_end (fun a ha => by
        rcases List.mem_append.1 ha with ha | ha
        · have := segA_mem ha; show ¬ 2 < a.d; omega
        · have := segB_mem ha; show ¬ 2 < a.d; omega), List.append_assoc, ← segB_succ] at hr3
      have HR3 := Lib.hid (show ClockRep w3 cb hb mb bm v3 (segA (j + 1) ++ segB (j + 1)) (2 * (j + 1)) 0 from hr3)
      clear hr3 ho3 hf3 HF2 HN2 HR2
      go_wp2_with fail
      go_roundw
      case rel => exact ⟨j + 1, v3, by omega, by go_num, HR3.out, HF3.out, HN3.out⟩
      case measure => simp [intOf]; omega
    · obtain rfl : k = j := by omega
      obtain ⟨d1, d2, d3, d4⟩ := due_seg k
      have ht1 := tick_any cb hb mb bm v (segA k ++ segB k) (2 * k) 0 wr HR.out (by omega)
      rw [show 0 + 1 = 1 from rfl, d1, d2] at ht1
      have HT1 := Lib.hid ht1
      have HD3 := Lib.hid d3
      have hla : (segA k).length = k := by simp [segA]
      have hlb : (segB k).length = k := by simp [segB]
      rw [hla] at HT1
      have HLB := Lib.hid hlb
      clear ht1 d1 d2 d3 d4 hla hlb
      go_wp2_with fail
      refine HT1.out.mono ?_
      rintro e w2 ⟨va, v2, rfl, hrow2, hr2, ho2, hf2⟩
      have HF2 := Lib.hid (HF.out.less ho2)
      have HN2 := Lib.hid (newC HN.out hf2 HF.out)
      have HR2 := Lib.hid hr2
      have HS := Lib.hid (show ∀ b, cOwn cb hb mb bm v2 b → b < wr.heap.size from fun b hb' => HR.out.lt (by
        rcases hb' with h | h | h | h | h
        · exact .inl h
        · exact .inr (.inl h)
        · exact .inr (.inr (.inl h))
        · exact .inr (.inr (.inr (.inl h)))
        · exact .inr (.inr (.inr (.inr (ho2 b h))))))
      have hrl := fun b hb' => (hrow2.lt b hb').1
      obtain ⟨ao, ca, rfl, _⟩ := row_form hrow2
      have HROW := Lib.hid hrow2
      have HRL := Lib.hid hrl
      have HWS := Lib.hid HN.out.size
      have t0 : ((k : Int) != (k : Int)) = false := by simp
      clear hrow2 hr2 ho2 hf2 HF HN HR HT1 hrl
      go_wp2_with fail
      refine (spoil_any _ _ _ _ w2 HROW.out).mono ?_
      rintro e w3 ⟨rfl, hf3⟩
      have HR3 := Lib.hid (HR2.out.keep hf3 (fun b hb' e => by have := HRL.out b e; have := HS.out b hb'; omega))
      have HN3 := Lib.hid (HN2.out.then hf3 (fun i hi e => by have := HRL.out i e; have := HWS.out; omega))
      clear hf3 HR2 HN2 HROW HRL
      have ht2 := tick_any cb hb mb bm v2 (segB k) (2 * k) 1 w3 HR3.out (by omega)
      rw [show 1 + 1 = 2 from rfl, HD3.out, HLB.out] at ht2
      have HT2 := Lib.hid ht2
      clear ht2
      go_wp2_with fail
      refine HT2.out.mono ?_
      rintro e w4 ⟨vb, v4, rfl, hrow4, hr4, ho4, hf4⟩
      have HN4 := Lib.hid (newC HN3.out hf4 HF2.out)
      obtain ⟨bo, cap, rfl, hcb⟩ := row_form hrow4
      have HCB := Lib.hid hcb
      clear hrow4 hr4 ho4 hf4 HR3 HN3 HT2 hcb
      go_wp2_with fail
      go_loop [8] (fun i => ∃ j : Nat, j ≤ k ∧ i = .int .i64 j) (fun i => k - (intOf i).toNat)
      case atStart => exact ⟨0, by omega, rfl⟩
      case round =>
        obtain ⟨j, hj, rfl⟩ := hrel
        by_cases hlt2 : j < k
        · obtain ⟨g, rfl, _, lg, xg⟩ := HCB.out j _ (segB_get k j hlt2)
          rw [show (((j + 51 : Nat)) : Int) = (j : Int) + 51 by omega] at xg
          have u1 : IntKind.u64.wrap ((j : Int) + 51) = (j : Int) + 51 := by simp [IntKind.wrap, IntKind.signed, IntKind.bits]; omega
          have u2 : (((j : Int) + 51) != ((j : Int) + 51)) = false := by simp
          go_wp2_with fail
          go_round
          case rel => exact ⟨j + 1, by omega, by go_num⟩
          case measure => simp [intOf]; omega
        · go_wp2_with fail
          refine (awake_any _).mono ?_
          rintro e w6 ⟨rfl, hn6⟩
          have HN6 := Lib.hid (HN4.out.trans hn6)
          clear hn6
          go_wp2
          go_ret
          exact ⟨rfl, HN6.out⟩

end Go.Proofs.Ytafeopcbfgmjkaa
