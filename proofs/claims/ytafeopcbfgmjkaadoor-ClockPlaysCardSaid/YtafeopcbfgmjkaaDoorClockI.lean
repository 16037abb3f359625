/- The document's clock: arming, disarming, a deadline, a tick. -/
import Derived.Test.YtafeopcbfgmjkaaDoorClockH
namespace Go.Proofs.YtafeopcbfgmjkaaDoor
open Go.RowKit

theorem findW_of {S : List Th} (h : Hw S) {t : Th} (ht : t ∈ S) : findW S t.what = some t := by
  unfold findW
  cases hf : S.find? fun x => x.what == t.what with
  | none => have := List.find?_eq_none.1 hf t ht; simp at this
  | some x =>
    have h1 := List.mem_of_find?_eq_some hf
    have h2 := List.find?_some hf
    simp at h2
    rw [hw_eq h h1 ht h2]
theorem findW_none {S : List Th} {u : Nat} (h : hasW S u = false) : findW S u = none :=
  find_never (fun j y hy => hasW_false h y (List.mem_of_getElem? hy))

set_option maxRecDepth 100000 in
set_option maxHeartbeats 1000000 in
theorem rdeadline_any (rb : Nat) (v : Value) (S : List Th) (last now u : Nat) (w : World) (h : DocRep w rb v S last now) :
    Calls Tryd.prog 16 #[.pointer (some ⟨rb, 0, none⟩), .int .u64 u] w fun e w' => e = .returned (.tuple #[.int .u64 (((findW S u).map (·.d)).getD 0), .bool (findW S u).isSome]) ∧ New w w' := by
  have HFI := Lib.hid (rfind_any rb v S last now u w h)
  clear h
  generalize findW S u = o at HFI ⊢
  go_enter Tryd.func16, Tryd.ntmps16
  go_wp2_with fail
  refine HFI.out.mono ?_
  rintro e w1 ⟨rfl, hn⟩
  have HN := Lib.hid hn
  clear hn HFI
  cases o with
  | none =>
    rw [show thAgg none = .agg #[.int .u64 0, .int .u64 0, .int .i64 0] from rfl, show (none : Option Th).isSome = false from rfl]
    go_wp2
    go_ret2
    exact ⟨rfl, HN.out.alloc _⟩
  | some t =>
    rw [show thAgg (some t) = .agg #[.int .u64 t.d, .int .u64 t.what, .int .i64 t.h] from rfl, show (some t).isSome = true from rfl]
    go_wp2
    go_ret2
    exact ⟨rfl, HN.out.alloc _⟩

set_option maxRecDepth 100000 in
set_option maxHeartbeats 1000000 in
theorem rdisarm_no (rb : Nat) (v : Value) (S : List Th) (last now u : Nat) (w : World) (h : DocRep w rb v S last now) (hno : hasW S u = false) :
    Calls Tryd.prog 14 #[.pointer (some ⟨rb, 0, none⟩), .int .u64 u] w fun e w' => e = .returned (.bool false) ∧ New w w' := by
  have hfi := rfind_any rb v S last now u w h
  rw [findW_none hno] at hfi
  have HFI := Lib.hid hfi
  clear h hfi hno
  go_enter Tryd.func14, Tryd.ntmps14
  go_wp2_with fail
  refine HFI.out.mono ?_
  rintro e w1 ⟨rfl, hn⟩
  have HN := Lib.hid hn
  clear hn HFI
  rw [show thAgg none = .agg #[.int .u64 0, .int .u64 0, .int .i64 0] from rfl, show (none : Option Th).isSome = false from rfl]
  go_wp2
  go_ret
  exact ⟨rfl, HN.out.alloc _⟩

set_option maxRecDepth 100000 in
set_option maxHeartbeats 2000000 in
theorem rdisarm_ok (rb : Nat) (v : Value) (S : List Th) (t : Th) (last now : Nat) (w : World) (h : DocRep w rb v S last now) (hw : Hw S) (hs : Hs S) (ht : t ∈ S) :
    Calls Tryd.prog 14 #[.pointer (some ⟨rb, 0, none⟩), .int .u64 t.what] w fun e w' => e = .returned (.bool true) ∧ ∃ v', DocRep w' rb v' (woH S t.h) last now ∧ (∀ k, v'.ownBlock = some k → w.heap.size ≤ k) ∧ Fr (· = rb) w w' := by
  have hfi := rfind_any rb v S last now t.what w h
  rw [findW_of hw ht] at hfi
  have HFI := Lib.hid hfi
  have HDR := Lib.hid (fun w' (f : New w w') => hrdrop_ok rb v S t last now w' (h.new f) hs ht)
  have l1 := lt_of_block h.hd
  clear h hfi
  go_enter Tryd.func14, Tryd.ntmps14
  go_wp2_with fail
  refine HFI.out.mono ?_
  rintro e w1 ⟨rfl, hn⟩
  have HN := Lib.hid hn
  clear hn HFI
  rw [show thAgg (some t) = .agg #[.int .u64 t.d, .int .u64 t.what, .int .i64 t.h] from rfl, show (some t).isSome = true from rfl]
  go_wp2_with fail
  have hA : (w1.alloc (.cells #[.int .u64 t.d, .int .u64 t.what, .int .i64 t.h] 76)).heap[w1.heap.size]? = some (.cells #[.int .u64 t.d, .int .u64 t.what, .int .i64 t.h] 76 (0, 0)) := block_alloc_new _ _
  obtain ⟨W0, hW0⟩ : ∃ W0, (w1.alloc (.cells #[.int .u64 t.d, .int .u64 t.what, .int .i64 t.h] 76)).drew = W0 := ⟨_, rfl⟩
  have f1 : New (w1.alloc (.cells #[.int .u64 t.d, .int .u64 t.what, .int .i64 t.h] 76)) W0 := by rw [← hW0]; exact (Fr.refl _ _).drew
  have hA0 := (f1.block _ (lt_of_block hA) id).trans hA
  have f0 : New w W0 := (HN.out.alloc _).trans f1
  have ya : W0.cell? ⟨w1.heap.size, 2, none⟩ = some (.int .i64 t.h) := cell_of_block hA0 2
  have la := lt_of_block hA0
  have lw := Nat.lt_of_lt_of_le l1 f0.size
  refine stillTail 5 (by kernel_rfl) (by kernel_rfl) hW0 ?_
  clear hW0 hA hA0 f1
  simp only [List.take_succ_cons, List.take_zero, List.drop_succ_cons, List.drop_zero]
  repeat still_step
  refine wpStill_nil ?_
  go_wp2_with fail
  refine (HDR.out _ f0).mono ?_
  rintro e w2 ⟨rfl, v', hr2, ho2, hf2⟩
  have HR2 := Lib.hid hr2
  have HO2 := Lib.hid ho2
  have HF2 := Lib.hid hf2
  have F0 := Lib.hid f0
  clear hr2 ho2 hf2 f0 HDR ya
  go_wp2
  go_ret
  exact ⟨rfl, v', HR2.out, fun k hk => Nat.le_trans F0.out.size (HO2.out k hk), (F0.out.mono (fun _ _ h => h.elim)).trans HF2.out⟩

set_option maxRecDepth 100000 in
set_option maxHeartbeats 1000000 in
theorem rarm_no (rb : Nat) (v : Value) (S : List Th) (last now u d : Nat) (w : World) (h : DocRep w rb v S last now) (he : armErr S u ≠ none) :
    Calls Tryd.prog 19 #[.pointer (some ⟨rb, 0, none⟩), .int .u64 u, .int .u64 d] w fun e w' => ∃ f, e = .returned f ∧ SaysF w' clockL f (armErr S u) ∧ New w w' := by
  by_cases h0 : u = 0
  · subst h0
    rw [show armErr S 0 = some (0, 1) from rfl, show (((0 : Nat)) : Int) = 0 from rfl]
    clear h he
    go_enter Tryd.func19, Tryd.ntmps19
    go_wp2_with fail
    refine (no_any clockL 0 1 _).mono ?_
    rintro e w1 ⟨f, rfl, hf, hn1⟩
    have HF := Lib.hid hf
    have HN := Lib.hid hn1
    clear hf hn1
    go_wp2
    go_ret
    exact ⟨f, rfl, HF.out, HN.out⟩
  · have hid : hasW S u = true := by
      unfold armErr at he; rw [if_neg h0] at he
      by_cases e : hasW S u = true
      · exact e
      · rw [if_neg e] at he; exact absurd rfl he
    rw [show armErr S u = some (0, 8) by unfold armErr; rw [if_neg h0, if_pos hid]]
    have hfi := rfind_any rb v S last now u w h
    obtain ⟨t, ht⟩ : ∃ t, findW S u = some t := by
      cases hf : findW S u with
      | some t => exact ⟨t, rfl⟩
      | none =>
        obtain ⟨s, hs, e⟩ := hasW_iff.1 hid
        unfold findW at hf
        have := List.find?_eq_none.1 hf s hs
        simp [e] at this
    rw [ht] at hfi
    have HFI := Lib.hid hfi
    have t0 : ((u : Int) == 0) = false := by rw [beq_eq_false_iff_ne]; omega
    clear h he hfi hid ht h0
    go_enter Tryd.func19, Tryd.ntmps19
    go_wp2_with fail
    refine HFI.out.mono ?_
    rintro e w1 ⟨rfl, hn⟩
    have HN := Lib.hid hn
    clear hn HFI
    rw [show thAgg (some t) = .agg #[.int .u64 t.d, .int .u64 t.what, .int .i64 t.h] from rfl, show (some t).isSome = true from rfl]
    go_wp2_with fail
    refine (no_any clockL 0 8 _).mono ?_
    rintro e w2 ⟨f, rfl, hf, hn1⟩
    have HF := Lib.hid hf
    have HN2 := Lib.hid ((HN.out.alloc _).trans hn1)
    clear hf hn1
    go_wp2
    go_ret
    exact ⟨f, rfl, HF.out, HN2.out⟩

set_option maxRecDepth 100000 in
set_option maxHeartbeats 1000000 in
theorem rarm_forever (rb : Nat) (v : Value) (S : List Th) (last now u : Nat) (w : World) (h : DocRep w rb v S last now) (hu : 1 ≤ u) (hno : hasW S u = false) :
    Calls Tryd.prog 19 #[.pointer (some ⟨rb, 0, none⟩), .int .u64 u, .int .u64 18446744073709551615] w fun e w' => e = .returned (.pointer none) ∧ New w w' := by
  have hfi := rfind_any rb v S last now u w h
  rw [findW_none hno] at hfi
  have HFI := Lib.hid hfi
  have t0 : ((u : Int) == 0) = false := by rw [beq_eq_false_iff_ne]; omega
  clear h hfi hno
  go_enter Tryd.func19, Tryd.ntmps19
  go_wp2_with fail
  refine HFI.out.mono ?_
  rintro e w1 ⟨rfl, hn⟩
  have HN := Lib.hid hn
  clear hn HFI
  rw [show thAgg none = .agg #[.int .u64 0, .int .u64 0, .int .i64 0] from rfl, show (none : Option Th).isSome = false from rfl]
  go_wp2
  go_ret
  exact ⟨rfl, HN.out.alloc _⟩

set_option maxRecDepth 100000 in
set_option maxHeartbeats 1000000 in
theorem rarm_ok (rb : Nat) (v : Value) (S : List Th) (last now u d : Nat) (w : World) (h : DocRep w rb v S last now) (hu : 1 ≤ u) (hno : hasW S u = false) (hd : d ≠ 18446744073709551615) (hl : last < 10000) (hsl : S.length < 10000) :
    Calls Tryd.prog 19 #[.pointer (some ⟨rb, 0, none⟩), .int .u64 u, .int .u64 d] w fun e w' => e = .returned (.pointer none) ∧ ∃ v', DocRep w' rb v' (ins ⟨d, u, last + 1⟩ S) (last + 1) now ∧ (∀ k, v'.ownBlock = some k → w.heap.size ≤ k) ∧ Fr (· = rb) w w' := by
  have hfi := rfind_any rb v S last now u w h
  rw [findW_none hno] at hfi
  have HFI := Lib.hid hfi
  have HPU := Lib.hid (fun w' (f : New w w') => hrput_any rb v S last now d u w' (h.new f) hl hsl)
  have l1 := lt_of_block h.hd
  have t0 : ((u : Int) == 0) = false := by rw [beq_eq_false_iff_ne]; omega
  have t1 : ((d : Int) != 18446744073709551615) = true := by simp; omega
  clear h hfi hno
  go_enter Tryd.func19, Tryd.ntmps19
  go_wp2_with fail
  refine HFI.out.mono ?_
  rintro e w1 ⟨rfl, hn⟩
  have HN := Lib.hid hn
  clear hn HFI
  rw [show thAgg none = .agg #[.int .u64 0, .int .u64 0, .int .i64 0] from rfl, show (none : Option Th).isSome = false from rfl]
  have ls := Nat.lt_of_lt_of_le l1 HN.out.size
  go_wp2_with fail
  have HN1 := Lib.hid (HN.out.alloc (.cells #[.int .u64 0, .int .u64 0, .int .i64 0] 76))
  refine (HPU.out _ HN1.out).mono ?_
  rintro e w2 ⟨rfl, v', hr2, ho2, hf2⟩
  have HR2 := Lib.hid hr2
  have HO2 := Lib.hid ho2
  have HF2 := Lib.hid hf2
  clear hr2 ho2 hf2 HPU
  go_wp2
  go_ret
  exact ⟨rfl, v', HR2.out, fun k hk => Nat.le_trans HN1.out.size (HO2.out k hk), (HN1.out.mono (fun _ _ h => h.elim)).trans HF2.out⟩

end Go.Proofs.YtafeopcbfgmjkaaDoor
