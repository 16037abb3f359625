/- A clock: errors of arming, disarming. -/
import Derived.Test.YtafeopcbfgmjkaaDoorClockC
import Derived.Test.YtafeopcbfgmjkaaDoorSays
namespace Go.Proofs.YtafeopcbfgmjkaaDoor
open Go.RowKit Go.Maps

abbrev clockL : ByteArray := ⟨#[99, 108, 111, 99, 107]⟩
def armErr (S : List Th) (u : Nat) : Option (Int × Int) := if u = 0 then some (0, 1) else if hasW S u then some (0, 8) else none

set_option maxRecDepth 100000 in
set_option maxHeartbeats 1000000 in
theorem arm_no (cb hb mb bm : Nat) (v : Value) (S : List Th) (last now u d : Nat) (w : World) (h : ClockRep w cb hb mb bm v S last now) (hub : u < 18446744073709551616) (he : armErr S u ≠ none) :
    Calls Tryd.prog 6 #[.pointer (some ⟨cb, 0, none⟩), .int .u64 u, .int .u64 d] w fun e w' => ∃ x, e = .returned x ∧ x ≠ .nilIface ∧ Says w' clockL x (armErr S u) ∧ New w w' := by
  have c2 := cell_of_block h.hd 2
  have l1 := lt_of_block h.hd
  rw [show (#[Value.int .u64 now, .pointer (some ⟨hb, 0, none⟩), .map (some bm)] : Array Value)[2]? = some (.map (some bm)) from rfl] at c2
  by_cases h0 : u = 0
  · subst h0
    rw [show armErr S 0 = some (0, 1) from rfl, show (((0 : Nat)) : Int) = 0 from rfl]
    clear h he c2
    go_enter Tryd.func6, Tryd.ntmps6
    go_wp2
    go_ret
    exact ⟨_, rfl, (fun x => by cases x), ⟨⟨_, _, rfl, block_alloc_new _ _, rfl⟩, by omega, by omega⟩, (Fr.refl _ _).alloc _⟩
  · have hid : hasW S u = true := by
      unfold armErr at he; rw [if_neg h0] at he
      by_cases e : hasW S u = true
      · exact e
      · rw [if_neg e] at he; exact absurd rfl he
    obtain ⟨s, hs, rfl⟩ := hasW_iff.1 hid
    have t0 : ((s.what : Int) == 0) = false := by rw [beq_eq_false_iff_ne]; omega
    have hlook := h.map.look2 keyU Tryd.underlying57 (zeroA w) (wf_u64 hub)
    rw [byC_of h.once hs, Option.getD_some, show armV s = .agg #[.int .i64 s.h, .int .u64 s.d] from rfl] at hlook
    rw [show armErr S s.what = some (0, 8) by unfold armErr; rw [if_neg h0, if_pos hid]]
    clear h he hid h0
    go_enter Tryd.func6, Tryd.ntmps6
    go_wp2
    go_ret
    exact ⟨_, rfl, (fun x => by cases x), ⟨⟨_, _, rfl, block_alloc_new1 _ _ _, rfl⟩, by omega, by omega⟩, ((Fr.refl _ _).alloc _).alloc _⟩

set_option maxRecDepth 100000 in
set_option maxHeartbeats 1000000 in
theorem arm_forever (cb hb mb bm : Nat) (v : Value) (S : List Th) (last now u : Nat) (w : World) (h : ClockRep w cb hb mb bm v S last now) (hu : 1 ≤ u) (hub : u < 18446744073709551616) (hno : hasW S u = false) :
    Calls Tryd.prog 6 #[.pointer (some ⟨cb, 0, none⟩), .int .u64 u, .int .u64 18446744073709551615] w fun e w' => e = .returned .nilIface ∧ New w w' := by
  have c2 := cell_of_block h.hd 2
  have l1 := lt_of_block h.hd
  rw [show (#[Value.int .u64 now, .pointer (some ⟨hb, 0, none⟩), .map (some bm)] : Array Value)[2]? = some (.map (some bm)) from rfl] at c2
  have hlook := h.map.look2 keyU Tryd.underlying57 (zeroA w) (wf_u64 hub)
  rw [byC_none hno] at hlook
  have t0 : ((u : Int) == 0) = false := by rw [beq_eq_false_iff_ne]; omega
  clear h hno
  go_enter Tryd.func6, Tryd.ntmps6
  go_wp2
  go_ret
  exact ⟨rfl, (Fr.refl _ _).alloc _⟩

set_option maxRecDepth 100000 in
set_option maxHeartbeats 1000000 in
theorem disarm_no (cb hb mb bm : Nat) (v : Value) (S : List Th) (last now u : Nat) (w : World) (h : ClockRep w cb hb mb bm v S last now) (hub : u < 18446744073709551616) (hno : hasW S u = false) :
    Calls Tryd.prog 9 #[.pointer (some ⟨cb, 0, none⟩), .int .u64 u] w fun e w' => e = .returned (.bool false) ∧ New w w' := by
  have c2 := cell_of_block h.hd 2
  have l1 := lt_of_block h.hd
  rw [show (#[Value.int .u64 now, .pointer (some ⟨hb, 0, none⟩), .map (some bm)] : Array Value)[2]? = some (.map (some bm)) from rfl] at c2
  have hlook := h.map.look2 keyU Tryd.underlying57 (zeroA w) (wf_u64 hub)
  rw [byC_none hno] at hlook
  clear h hno
  go_enter Tryd.func9, Tryd.ntmps9
  go_wp2
  go_ret
  exact ⟨rfl, (Fr.refl _ _).alloc _⟩

theorem woH_len {S : List Th} (h : Hs S) {t : Th} (ht : t ∈ S) : (woH S t.h).length = S.length - 1 := by
  have := (woH_perm h ht).length_eq
  simp at this; omega
theorem rep_hs {w : World} {cb hb mb bm : Nat} {v : Value} {S : List Th} {last now : Nat} (h : ClockRep w cb hb mb bm v S last now) : Hs S := by
  obtain ⟨_, _, _, _, _, _, _, _, _, h8, _⟩ := h.heap
  exact h8
theorem rep_fit {w : World} {cb hb mb bm : Nat} {v : Value} {S : List Th} {last now : Nat} (h : ClockRep w cb hb mb bm v S last now) : ∀ t ∈ S, t.d < 18446744073709551616 ∧ t.what < 18446744073709551616 ∧ 1 ≤ t.h ∧ t.h ≤ last := by
  obtain ⟨_, _, _, _, _, _, _, _, _, _, h9, _⟩ := h.heap
  exact h9

set_option maxRecDepth 100000 in
set_option maxHeartbeats 2000000 in
theorem disarm_ok (cb hb mb bm : Nat) (v : Value) (S : List Th) (last now : Nat) (t : Th) (w : World) (h : ClockRep w cb hb mb bm v S last now) (ht : t ∈ S) :
    Calls Tryd.prog 9 #[.pointer (some ⟨cb, 0, none⟩), .int .u64 t.what] w fun e w' => e = .returned (.bool true) ∧ ∃ v', ClockRep w' cb hb mb bm v' (woH S t.h) last now ∧ (∀ k, v'.ownBlock = some k → v.ownBlock = some k) ∧ Fr (cOwn cb hb mb bm v) w w' := by
  have c1 := cell_of_block h.hd 1
  have c2 := cell_of_block h.hd 2
  have l1 := lt_of_block h.hd
  rw [show (#[Value.int .u64 now, .pointer (some ⟨hb, 0, none⟩), .map (some bm)] : Array Value)[1]? = some (.pointer (some ⟨hb, 0, none⟩)) from rfl] at c1
  rw [show (#[Value.int .u64 now, .pointer (some ⟨hb, 0, none⟩), .map (some bm)] : Array Value)[2]? = some (.map (some bm)) from rfl] at c2
  have hft := rep_fit h t ht
  have hwf := wf_u64 (x := t.what) (by omega)
  have hlook := h.map.look2 keyU Tryd.underlying57 (zeroA w) hwf
  rw [byC_of h.once ht, Option.getD_some, show armV t = .agg #[.int .i64 t.h, .int .u64 t.d] from rfl] at hlook
  have HDR := Lib.hid (fun w' (n : New w w') => hdrop_ok hb mb v S last t w' (h.heap.new n) ht)
  have H := Lib.hid h
  have hap := h.apart
  have HAP := Lib.hid hap
  clear h hap
  go_enter Tryd.func9, Tryd.ntmps9
  go_wp2_with fail
  have f0 : New w (w.alloc (.cells #[.int .i64 t.h, .int .u64 t.d] 64)) := (Fr.refl _ _).alloc _
  have hA : (w.alloc (.cells #[.int .i64 t.h, .int .u64 t.d] 64)).heap[w.heap.size]? = some (.cells #[.int .i64 t.h, .int .u64 t.d] 64 (0, 0)) := block_alloc_new _ _
  obtain ⟨W0, hW0⟩ : ∃ W0, (w.alloc (.cells #[.int .i64 t.h, .int .u64 t.d] 64)).drew = W0 := ⟨_, rfl⟩
  have f1 : New (w.alloc (.cells #[.int .i64 t.h, .int .u64 t.d] 64)) W0 := by rw [← hW0]; exact (Fr.refl _ _).drew
  have hA0 := (f1.block _ (lt_of_block hA) id).trans hA
  have f0 : New w W0 := f0.trans f1
  have y1 := (f0.cell l1 id 1).trans c1
  have ya := cell_of_block hA0 0
  have la := lt_of_block hA0
  have lw := Nat.lt_of_lt_of_le l1 f0.size
  rw [show (#[Value.int .i64 t.h, .int .u64 t.d] : Array Value)[0]? = some (.int .i64 t.h) from rfl] at ya
  refine stillTail 6 (by kernel_rfl) (by kernel_rfl) hW0 ?_
  clear hW0 hA hA0 f1 c1 c2 hlook
  simp only [List.take_succ_cons, List.take_zero, List.drop_succ_cons, List.drop_zero]
  repeat still_step
  refine wpStill_nil ?_
  go_wp2_with fail
  refine (HDR.out _ f0).mono ?_
  rintro e w2 ⟨rfl, v', hr2, ho2, hf2⟩
  have hb2 := (hf2.block cb (Nat.lt_of_lt_of_le l1 f0.size) (fun e => (HAP.out.1 cb e).1 rfl)).trans ((f0.block cb l1 id).trans H.out.hd)
  have hm2 := (H.out.map.keep f0 id).keep hf2 (fun e => (HAP.out.1 bm e).2 rfl)
  have d2 := cell_of_block hb2 2
  have l2 := lt_of_block hb2
  rw [show (#[Value.int .u64 now, .pointer (some ⟨hb, 0, none⟩), .map (some bm)] : Array Value)[2]? = some (.map (some bm)) from rfl] at d2
  have HR2 := Lib.hid hr2
  have HO2 := Lib.hid ho2
  have HF2 := Lib.hid hf2
  have HB2 := Lib.hid hb2
  have HM2 := Lib.hid hm2
  have F0 := Lib.hid f0
  clear hr2 ho2 hf2 hb2 hm2 f0 HDR y1 ya
  go_wp2_with (at_delete; go_loud (refine wpList_delete_mapIs rfl _ _ 57 25 rfl 64 .u64 keyU Tryd.underlying57 bm S.length (byC S) rfl HM2.out t.what rfl hwf ?_; intro w3 hmap3 hf3))
  go_ret
  have hw := H.out.once
  have hhs := rep_hs H.out
  rw [byC_of hw ht] at hmap3
  simp only [Option.isSome_some, if_true] at hmap3
  refine ⟨rfl, v', ⟨?_, ?_, ?_, H.out.far, List.Pairwise.filter _ hw, fun x hx => H.out.each x (List.mem_filter.1 hx).1, H.out.few.1, H.out.few.2.1, Nat.le_trans (List.length_filter_le _ _) H.out.few.2.2⟩, HO2.out, ?_⟩
  · rw [hf3.block cb l2 (fun e => HAP.out.2 e.symm)]; exact HB2.out
  · refine HR2.out.keep hf3 (fun k hk e => ?_)
    rcases hk with h | h | h
    · exact (HAP.out.1 k (.inl h)).2 e
    · exact (HAP.out.1 k (.inr (.inl h))).2 e
    · exact (HAP.out.1 k (.inr (.inr (HO2.out k h)))).2 e
  · rw [woH_len hhs ht]
    exact hmap3.congr (fun y _ => byC_woH hw hhs ht y)
  · exact ((F0.out.mono (fun _ _ h => h.elim)).trans (HF2.out.mono (fun k _ hk => .inr (.inr hk)))).trans (hf3.mono (fun k _ hk => .inr (.inl hk)))

end Go.Proofs.YtafeopcbfgmjkaaDoor
