/- A memory all of whose cells are there; the document's example. -/
import Derived.Test.YtfppipbdmjnbcaaDoorMemD
import Derived.Test.YtfppipbdmjnbcaaDoorMemE
namespace Go.Proofs.YtfppipbdmjnbcaaDoor
open Go.RowKit

set_option maxRecDepth 100000 in
set_option maxHeartbeats 400000 in
theorem count_any (b cb wb : Nat) (cs ws : List Nat) (th ct : Nat) (w : World) (h : MemRep w b cb wb cs ws th ct) :
    Calls Tryd.prog 12 #[.pointer (some ⟨b, 0, none⟩)] w fun e w' => e = .returned (.int .i64 ct) ∧ w = w' := by
  have c3 := h.hd.cell 3 _ rfl
  go_enter Tryd.func12, Tryd.ntmps12
  go_wp2
  go_ret
  exact ⟨rfl, rfl⟩

theorem fill_all (n x y : Nat) : fill (List.replicate n x) 0 n y = List.replicate n y := by
  unfold fill
  apply List.ext_getElem?
  intro i
  by_cases h : i < n
  · simp [h]
  · simp [h]

/-- What a memory of one's own may turn: nothing that was there. -/
theorem own_then {w w1 w2 : World} {S : Nat → Prop} (h : New w w1) (k : Fr S w1 w2) (hs : ∀ i, S i → w.heap.size ≤ i) : New w w2 :=
  h.then k (fun i hi hx => by have := hs i hx; omega)

set_option maxRecDepth 100000 in
set_option maxHeartbeats 1000000 in
theorem full_any (n : Nat) (w : World) (h1 : 1 ≤ n) (h2 : n ≤ 65536) :
    Calls Tryd.prog 15 #[.int .i64 n] w fun e w' => ∃ b cb wb, e = .returned (.pointer (some ⟨b, 0, none⟩)) ∧ (w.heap.size ≤ b ∧ w.heap.size ≤ cb ∧ w.heap.size ≤ wb) ∧
      MemRep w' b cb wb (List.replicate n 0) (List.replicate n 64) n 0 ∧ New w w' := by
  go_enter Tryd.func15, Tryd.ntmps15
  go_wp2_with fail
  refine (new_any n _ h1 h2).mono ?_
  rintro e w1 ⟨b, cb, wb, rfl, hb, hcb, hwb, hr, hn1⟩
  have HM := Lib.hid (map_ok b cb wb _ _ 0 0 0 n 64 w1 hr h1 (by simp) (fun i x _ _ hx => (List.mem_replicate.1 (List.mem_of_getElem? hx)).2) (.inr rfl) (by omega))
  have HN := Lib.hid hn1
  clear hr hn1
  go_wp2_with fail
  refine HM.out.mono ?_
  rintro e w2 ⟨rfl, hr2, hf2⟩
  rw [fill_all, fill_all, Nat.zero_add] at hr2
  have HR2 := Lib.hid hr2
  have HF2 := Lib.hid hf2
  clear hr2 hf2
  go_wp2
  go_ret
  exact ⟨b, cb, wb, rfl, ⟨hb, hcb, hwb⟩, HR2.out, own_then HN.out HF2.out (fun i hi => by omega)⟩

set_option maxRecDepth 100000 in
set_option maxHeartbeats 2000000 in
theorem awake_any (w : World) : Calls Tryd.prog 10 #[] w fun e w' => e = .returned (.bool true) ∧ New w w' := by
  go_enter Tryd.func10, Tryd.ntmps10
  go_wp2_with fail
  refine (new_any 9 _ (by omega) (by omega)).mono ?_
  rintro e w1 ⟨b, cb, wb, rfl, hb, hcb, hwb, hr, hn1⟩
  have HM := Lib.hid (map_ok b cb wb _ _ 0 0 3 2 32 w1 hr (by omega) (by simp) (fun i x _ _ hx => (List.mem_replicate.1 (List.mem_of_getElem? hx)).2) (.inl rfl) (by omega))
  have HN := Lib.hid hn1
  clear hr hn1
  go_wp2_with fail
  refine HM.out.mono ?_
  rintro e w2 ⟨rfl, hr2, hf2⟩
  have HR2 := Lib.hid hr2
  have HN2 := Lib.hid (own_then HN.out hf2 (fun i hi => by omega))
  clear hr2 hf2 HM
  go_wp2_with fail
  refine (store_any b cb wb _ _ _ _ 4 32 0 4294967301 _ HR2.out rfl (.inl rfl) rfl (by omega) (by omega)).mono ?_
  rintro e w3 ⟨rfl, hr3, hf3⟩
  have HR3 := Lib.hid hr3
  have HN3 := Lib.hid (own_then HN2.out hf3 (fun i hi => by omega))
  clear hr3 hf3
  go_wp2_with fail
  refine (load_any b cb wb _ _ _ _ 4 32 5 _ HR3.out rfl (.inl rfl) rfl (by omega)).mono ?_
  rintro e w4 ⟨rfl, hr4, hf4⟩
  have HR4 := Lib.hid hr4
  have HN4 := Lib.hid (own_then HN3.out hf4 (fun i hi => by omega))
  clear hr4 hf4
  go_wp2_with fail
  refine (cas_any b cb wb _ _ _ _ 4 32 5 5 9 _ HR4.out rfl (.inl rfl) rfl (by omega) (by omega) (by omega)).mono ?_
  rintro e w5 ⟨rfl, hr5, hf5⟩
  have HR5 := Lib.hid hr5
  have HN5 := Lib.hid (own_then HN4.out hf5 (fun i hi => by omega))
  clear hr5 hf5
  go_wp2_with fail
  refine (cas_any b cb wb _ _ _ _ 4 32 9 5 1 _ HR5.out rfl (.inl rfl) rfl (by omega) (by omega) (by omega)).mono ?_
  rintro e w6 ⟨rfl, hr6, hf6⟩
  have HR6 := Lib.hid hr6
  have HN6 := Lib.hid (own_then HN5.out hf6 (fun i hi => by omega))
  clear hr6 hf6
  go_wp2_with fail
  refine (count_any b cb wb _ _ _ _ _ HR6.out).mono ?_
  rintro e w7 ⟨rfl, rfl⟩
  go_wp2
  go_ret
  exact ⟨rfl, HN6.out⟩

end Go.Proofs.YtfppipbdmjnbcaaDoor
