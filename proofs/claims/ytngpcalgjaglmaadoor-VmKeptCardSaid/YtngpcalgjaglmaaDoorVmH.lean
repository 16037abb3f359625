/- The statements' own memories and frames. -/
import Derived.Test.YtngpcalgjaglmaaDoorMemN
import Derived.Test.YtngpcalgjaglmaaDoorVmC
import Derived.Deep.DeepCutAuto
import Derived.Deep.CutBlock
namespace Go.Proofs.YtngpcalgjaglmaaDoor
open Go.RowKit

def bothWs : List Nat := [64, 64, 64, 64, 64, 64, 64, 64, 32, 32, 32, 0]
def bothCs (xs : List Nat) : Nat → List Nat
  | 0 => List.replicate 12 0
  | k + 1 => accCs 1 (bothCs xs k) bothWs k 0 (xs.getD k 0)
theorem bothWs_at {k : Nat} (h : k < 11) : bothWs.getD k 0 ≠ 0 := by
  rcases (show k = 0 ∨ k = 1 ∨ k = 2 ∨ k = 3 ∨ k = 4 ∨ k = 5 ∨ k = 6 ∨ k = 7 ∨ k = 8 ∨ k = 9 ∨ k = 10 by omega) with rfl | rfl | rfl | rfl | rfl | rfl | rfl | rfl | rfl | rfl | rfl <;> decide

set_option maxRecDepth 100000 in
set_option maxHeartbeats 4000000 in
theorem both_any (xs : List Nat) (ao : Option Addr) (cap : Nat) (w : World) (hc : Nats w ao xs) (hx : ∀ x ∈ xs, x < 18446744073709551616) (hm : xs.length ≤ 9223372036854775807) :
    Calls Tryd.prog 5 #[.slice ao xs.length cap] w fun e w' => ∃ b cb wb rb rwb rhb, e = .returned (.tuple #[.pointer (some ⟨b, 0, none⟩), .pointer (some ⟨rb, 0, none⟩)]) ∧
      (∀ k, Six b cb wb rb rwb rhb k → w.heap.size ≤ k) ∧ Sync w' b cb wb rb rwb rhb (bothCs xs (min xs.length 11)) bothWs (min xs.length 11) ∧ New w w' := by
  obtain ⟨L, hL⟩ : ∃ L, xs.length = L := ⟨_, rfl⟩
  have HC := Lib.hid hc
  have HX := Lib.hid hx
  have HL := Lib.hid hL
  rw [hL] at hm ⊢
  clear hc hx hL
  go_enter Tryd.func5, Tryd.ntmps5
  go_wp2_with fail
  refine (new_any 12 w (by omega) (by omega)).mono ?_
  rintro e w1 ⟨b, cb, wb, rfl, h1, h2, h3, hr1, hn1⟩
  have HR1 := Lib.hid hr1
  have HN1 := Lib.hid hn1
  clear hr1 hn1
  go_wp2_with fail
  refine (rnew_any 12 w1 (by omega) (by omega)).mono ?_
  rintro e w2 ⟨rb, rwb, rhb, rfl, h4, h5, h6, hr2, hn2⟩
  have HR2 := Lib.hid hr2
  have hsz := HN1.out.size
  have l1 := HR1.out.hd.lt
  have l2 := HR1.out.cells.lt
  have l3 := HR1.out.widths.lt
  have l4 := hr2.hd.lt
  have l5 := hr2.widths.lt
  have l6 := hr2.holds.lt
  have HM2 := Lib.hid (HR1.out.keep hn2 id id id)
  have HN2 := Lib.hid (HN1.out.trans hn2)
  clear hr2 hn2 HR1 HN1
  go_wp2_with fail
  refine (map_any b cb wb _ _ 0 0 0 8 64 w2 HM2.out (by omega) (fun _ => by omega)).mono ?_
  rintro e w3 ⟨v3, rfl, hs3, hm3, hf3⟩
  rw [show mapErr (List.replicate 12 0) 0 8 64 = none from rfl] at hs3 hm3 hf3
  obtain rfl : v3 = .nilIface := hs3
  rw [if_pos rfl] at hm3
  obtain ⟨th3, hm3, rfl⟩ := hm3
  have hr3 := HR2.out.keep hf3 (by omega) (by omega) (by omega)
  have HM3 := Lib.hid hm3
  have HR3 := Lib.hid hr3
  have HF3 := Lib.hid (HN2.out.then hf3 (fun i hi e => by omega))
  clear hm3 hf3 hr3 HM2 HR2
  go_wp2_with fail
  refine (map_any b cb wb _ _ _ 0 8 3 32 w3 HM3.out (by omega) (fun _ => by simp)).mono ?_
  rintro e w4 ⟨v4, rfl, hs4, hm4, hf4⟩
  rw [show mapErr (fill (List.replicate 12 0) (0 : Int).toNat (8 : Int).toNat (64 : Int).toNat) 8 3 32 = none from rfl] at hs4 hm4 hf4
  obtain rfl : v4 = .nilIface := hs4
  rw [if_pos rfl] at hm4
  obtain ⟨th4, hm4, rfl⟩ := hm4
  have hr4 := HR3.out.keep hf4 (by omega) (by omega) (by omega)
  have HM4 := Lib.hid (show MemRep w4 b cb wb (List.replicate 12 0) bothWs (cnt bothWs) 0 from hm4)
  have HR4 := Lib.hid hr4
  have HF4 := Lib.hid (HF3.out.then hf4 (fun i hi e => by omega))
  clear hm4 hf4 hr4 HM3 HR3
  go_wp2_with fail
  refine (rmap_any rb rwb rhb _ _ 0 0 8 64 w4 HR4.out (by omega) (by omega)).mono ?_
  rintro e w5 ⟨f5, rfl, hs5, hm5, hf5⟩
  rw [show mapErr (List.replicate 12 0) 0 8 64 = none from rfl] at hs5 hm5 hf5
  obtain rfl : f5 = .pointer none := hs5
  rw [if_pos rfl] at hm5
  have HM5 := Lib.hid (HM4.out.keep hf5 (by omega) (by omega) (by omega))
  have HR5 := Lib.hid hm5
  have HF5 := Lib.hid (HF4.out.then hf5 (fun i hi e => by omega))
  clear hm5 hf5 HM4 HR4
  go_wp2_with fail
  refine (rmap_any rb rwb rhb _ _ 0 8 3 32 w5 HR5.out (by omega) (by omega)).mono ?_
  rintro e w6 ⟨f6, rfl, hs6, hm6, hf6⟩
  rw [show mapErr (fill (List.replicate 12 0) (0 : Int).toNat (8 : Int).toNat (64 : Int).toNat) 8 3 32 = none from rfl] at hs6 hm6 hf6
  obtain rfl : f6 = .pointer none := hs6
  rw [if_pos rfl] at hm6
  have hm6' : RefRep w6 rb rwb rhb (List.replicate 12 0) bothWs 0 := hm6
  have HS6 := Lib.hid (show Sync w6 b cb wb rb rwb rhb (List.replicate 12 0) bothWs 0 from ⟨HM5.out.keep hf6 (by omega) (by omega) (by omega), hm6', by omega, by omega, by omega⟩)
  have HF6 := Lib.hid (HF5.out.then hf6 (fun i hi e => by omega))
  clear hm6 hm6' hf6 HM5 HR5 HF3 HF4 HF5 HN2
  have HSIX := Lib.hid (show ∀ k, Six b cb wb rb rwb rhb k → w.heap.size ≤ k from fun k hk => by
    rcases hk with (rfl | rfl | rfl) | (rfl | rfl | rfl) <;> omega)
  go_wp2_with fail
  go_loopw [8] (fun i wr => ∃ k : Nat, k ≤ L ∧ k ≤ 11 ∧ i = .int .i64 k ∧ Sync wr b cb wb rb rwb rhb (bothCs xs k) bothWs k ∧ New w wr) (fun i _ => L - (intOf i).toNat)
  case atStart => exact ⟨0, by omega, by omega, rfl, HS6.out, HF6.out⟩
  case round =>
    clear HS6 HF6
    obtain ⟨k, hk, hk1, rfl, hs, hn⟩ := hrel
    by_cases hlt : k < L ∧ k < 11
    · obtain ⟨hlt1, hlt2⟩ := hlt
      obtain ⟨x, hxk⟩ : ∃ x, xs[k]? = some x := ⟨xs[k]'(by rw [HL.out]; exact hlt1), by simp⟩
      obtain ⟨g, off, rfl, hg, c0⟩ := HC.out.keep hn k x hxk
      have hxb := HX.out x (List.mem_of_getElem? hxk)
      have hgd : xs.getD k 0 = x := by rw [List.getD_eq_getElem?_getD, hxk]; rfl
      have hw0 := bothWs_at hlt2
      have he : accErr bothWs k = none := by unfold accErr; rw [if_neg hw0]
      have hN : accN bothWs k k = k + 1 := by unfold accN; rw [if_neg hw0]
      have hst := store_all b cb wb (bothCs xs k) bothWs (cnt bothWs) k k x wr hs.m (by omega) hxb (by omega)
      rw [he, hN] at hst
      obtain ⟨gg, offg, eg, hgg, _⟩ := HC.out k x hxk
      obtain ⟨rfl, rfl⟩ : g = gg ∧ off = offg := by simpa using eg
      have HST := Lib.hid hst
      have HS := Lib.hid hs
      have HN := Lib.hid hn
      have HE := Lib.hid he
      have HNN := Lib.hid hN
      have HB := Lib.hid (show bothCs xs (k + 1) = accCs 1 (bothCs xs k) bothWs k 0 x by show accCs 1 (bothCs xs k) bothWs k 0 (xs.getD k 0) = _; rw [hgd])
      have q1 : (0 : Int) ≤ (k : Int) := by omega
      have q2 : (k : Int) < (L : Int) := by omega
      have tw : IntKind.u64.wrap (k : Int) = (k : Int) := IntWalk.u64_in _ (by omega)
      have HXK := Lib.hid hxk
      clear hst hs hn he hN hgd hw0 hxk eg
      go_wp2_with fail
      refine HST.out.mono ?_
      rintro e w7 ⟨v7, rfl, hs7, hm7, hf7⟩
      obtain rfl : v7 = .nilIface := hs7
      have hr7 := HS.out.r.keep hf7 (by have := HS.out.ab; have := HS.out.ac; omega) (by have := HS.out.ab; have := HS.out.ac; omega) (by have := HS.out.ab; have := HS.out.ac; omega)
      have hrd := rdo_any 1 rb rwb rhb (bothCs xs k) bothWs k k 0 x w7 (by omega) hr7 (by omega) hxb (by omega) (by omega)
      rw [HE.out, HNN.out] at hrd
      have hn7 : New w w7 := HN.out.then hf7 (fun i hi e => by have := HSIX.out i (.inl (by omega)); omega)
      have c1 : w7.cell? ⟨g, off + k, none⟩ = some (.int .u64 x) := by
        obtain ⟨g', off', e', _, h'⟩ := HC.out.keep hn7 k x HXK.out
        cases e'; exact h'
      have HRD := Lib.hid hrd
      have HM7 := Lib.hid hm7
      have HN7 := Lib.hid hn7
      clear hr7 hrd hm7 hf7 hn7 c0
      go_wp2_with fail
      refine HRD.out.mono ?_
      rintro e w8 ⟨f8, rfl, hs8, hr8, hf8⟩
      have hsy : Sync w8 b cb wb rb rwb rhb (bothCs xs (k + 1)) bothWs (k + 1) := by
        rw [HB.out]
        exact ⟨HM7.out.keep hf8 (by have := HS.out.ab; have := HS.out.ac; have := HS.out.aw; omega) (by have := HS.out.ab; have := HS.out.ac; have := HS.out.aw; omega) (by have := HS.out.ab; have := HS.out.ac; have := HS.out.aw; omega), hr8, HS.out.ab, HS.out.ac, HS.out.aw⟩
      have HSY := Lib.hid hsy
      have HN8 := Lib.hid (HN7.out.then hf8 (fun i hi e => by have := HSIX.out i (.inr (by omega)); omega))
      clear hsy hr8 hf8 hs8 c1
      go_wp2
      go_roundw
      case rel => exact ⟨k + 1, by omega, by omega, by go_num, HSY.out, HN8.out⟩
      case measure => simp [intOf]; omega
    · have hmin : min L 11 = k := by omega
      have HS := Lib.hid hs
      have HN := Lib.hid hn
      clear hs hn
      rcases (show (k < L ∧ ¬ k < 11) ∨ ¬ k < L by omega) with ⟨h7, h8⟩ | h7
      all_goals
        go_wp2_with fail
        go_ret2
        rw [hmin]
        exact ⟨b, cb, wb, rb, rwb, rhb, rfl, HSIX.out, HS.out, HN.out⟩

/-- The first 32 numbers, with noughts behind. -/
def padR (xs : List Nat) (k : Nat) : List Nat := xs.take k ++ List.replicate (32 - k) 0
theorem padR_len {xs : List Nat} {k : Nat} (h : k ≤ xs.length) (h2 : k ≤ 32) : (padR xs k).length = 32 := by simp [padR]; omega
theorem padR_set {xs : List Nat} {k x : Nat} (h : xs[k]? = some x) (h2 : k < 32) : (padR xs k).set k x = padR xs (k + 1) := by
  have hl := (List.getElem?_eq_some_iff.1 h).1
  unfold padR
  apply List.ext_getElem?
  intro j
  rw [show xs.take (k + 1) = xs.take k ++ [x] by rw [List.take_add_one, h]; rfl]
  by_cases e : k = j
  · subst e
    rw [List.getElem?_set_self (by simp; omega), List.getElem?_append_left (by simp; omega), List.getElem?_append_right (by simp; omega)]
    simp [show k - min k xs.length = 0 by omega]
  · rw [List.getElem?_set_ne e]
    by_cases hj : j < k
    · rw [List.getElem?_append_left (by simp; omega), List.getElem?_append_left (by simp; omega), List.getElem?_append_left (by simp; omega)]
    · rw [List.getElem?_append_right (by simp; omega), List.getElem?_append_right (by simp; omega)]
      simp only [List.length_append, List.length_take, List.getElem?_replicate]
      simp only [List.length_cons, List.length_nil]
      rw [show min k xs.length = k by omega]
      by_cases hj2 : j < 32
      · rw [if_pos (by omega), if_pos (by omega)]
      · rw [if_neg (by omega), if_neg (by omega)]
theorem padR_fit {xs : List Nat} (k : Nat) (h : ∀ x ∈ xs, x < 18446744073709551616) : ∀ x ∈ padR xs k, x < 18446744073709551616 := by
  intro x hx
  rcases List.mem_append.1 hx with hx | hx
  · exact h x (List.mem_of_mem_take hx)
  · rw [(List.mem_replicate.1 hx).2]; omega
/-- The cells of a frame that was just made. -/
def frC (pc : Int) : Array Value := #[.int .i64 pc, .int .u64 0, .int .u64 0, .int .u64 0, .int .u64 0, .int .u64 0, .int .u64 0, .int .u64 0, .int .u64 0, .int .u64 0, .int .u64 0, .int .u64 0, .int .u64 0, .int .u64 0, .int .u64 0, .int .u64 0, .int .u64 0, .int .u64 0, .int .u64 0, .int .u64 0, .int .u64 0, .int .u64 0, .int .u64 0, .int .u64 0, .int .u64 0, .int .u64 0, .int .u64 0, .int .u64 0, .int .u64 0, .int .u64 0, .int .u64 0, .int .u64 0, .int .u64 0, .slice none 0 0]
theorem frC_list (pc : Int) : (frC pc).toList = [.int .i64 pc] ++ List.replicate 32 (.int .u64 0) ++ [.slice none 0 0] := rfl
theorem fm_block {w : World} {b : Nat} {pc : Int} {xs : List Nat} {T : TypeId} (h : w.heap[b]? = some (.cells (frC pc) T (0, 0))) : FmAt w b 0 (.slice none 0 0) ⟨pc, padR xs 0, []⟩ := by
  have hp : padR xs 0 = List.replicate 32 0 := by simp [padR]
  refine ⟨⟨lt_of_block h, (cell_of_block h 0).trans rfl, fun i x hx => ?_, (cell_of_block h (0 + 33)).trans rfl, free_of_block h, by rw [hp]; simp, fun x hx => ?_⟩, World.ownsRow_nil _ _ _ _, (fun k hk => by cases hk), by simp⟩
  · have hx : (padR xs 0)[i]? = some x := hx
    rw [hp, List.getElem?_replicate] at hx
    split at hx
    · rename_i hi
      obtain rfl := Option.some.inj hx
      rw [cell_of_block h, ← Array.getElem?_toList, frC_list, show 0 + 1 + i = i + 1 by omega]
      rw [List.append_assoc, List.getElem?_append_right (by simp), List.getElem?_append_left (by simp; omega)]
      rw [show i + 1 - [Value.int .i64 pc].length = i by simp, List.getElem?_replicate, if_pos hi]; rfl
    · cases hx
  · have hx : x ∈ padR xs 0 := hx
    rw [hp] at hx
    rw [(List.mem_replicate.1 hx).2]; omega

set_option maxRecDepth 100000 in
set_option maxHeartbeats 4000000 in
theorem frame0_any (pc : Int) (xs : List Nat) (ao : Option Addr) (cap : Nat) (w : World) (hc : Nats w ao xs) (hx : ∀ x ∈ xs, x < 18446744073709551616) (hm : xs.length ≤ 9223372036854775807) :
    Calls Tryd.prog 7 #[.int .i64 pc, .slice ao xs.length cap, .slice none 0 0] w fun e w' => ∃ fb gb, e = .returned (.tuple #[.pointer (some ⟨fb, 0, none⟩), .pointer (some ⟨gb, 0, none⟩)]) ∧ w.heap.size ≤ fb ∧ w.heap.size ≤ gb ∧ fb ≠ gb ∧
      FmAt w' fb 0 (.slice none 0 0) ⟨pc, padR xs (min xs.length 32), []⟩ ∧ FmAt w' gb 0 (.slice none 0 0) ⟨pc, padR xs (min xs.length 32), []⟩ ∧ New w w' := by
  obtain ⟨L, hL⟩ : ∃ L, xs.length = L := ⟨_, rfl⟩
  have HC := Lib.hid hc
  have HX := Lib.hid hx
  have HL := Lib.hid hL
  rw [hL] at hm ⊢
  clear hc hx hL
  go_enter Tryd.func7, Tryd.ntmps7
  go_wp2_with fail
  have hb1 : (w.alloc (.cells (frC pc) 50)).heap[w.heap.size]? = some (.cells (frC pc) 50 (0, 0)) := block_alloc_new _ _
  obtain ⟨W2, hW2⟩ : ∃ W2, (w.alloc (.cells (frC pc) 50)).alloc (.cells (frC pc) 70) = W2 := ⟨_, rfl⟩
  have hf2 : FmAt W2 w.heap.size 0 (.slice none 0 0) ⟨pc, padR xs 0, []⟩ := by rw [← hW2]; exact (fm_block hb1).new ((Fr.refl _ _).alloc _)
  have hg2 : FmAt W2 (w.heap.size + 1) 0 (.slice none 0 0) ⟨pc, padR xs 0, []⟩ := by rw [← hW2]; exact fm_block (block_alloc_new1 _ _ _)
  have hn2 : New w W2 := by rw [← hW2]; exact ((Fr.refl _ _).alloc _).alloc _
  unfold frC at hW2
  rw [hW2]
  clear hW2 hb1
  obtain ⟨fb, hfb⟩ : ∃ fb, w.heap.size = fb := ⟨_, rfl⟩
  have hwf : w.heap.size ≤ fb := by omega
  rw [hfb] at hf2 hg2 ⊢
  have HF2 := Lib.hid hf2
  have HG2 := Lib.hid hg2
  have HN2 := Lib.hid hn2
  clear hf2 hg2 hn2 hfb
  go_wp2_with fail
  go_loopw [10] (fun i wr => ∃ k : Nat, k ≤ L ∧ k ≤ 32 ∧ i = .int .i64 k ∧ FmAt wr fb 0 (.slice none 0 0) ⟨pc, padR xs k, []⟩ ∧ FmAt wr (fb + 1) 0 (.slice none 0 0) ⟨pc, padR xs k, []⟩ ∧ New w wr) (fun i _ => L - (intOf i).toNat)
  case atStart => exact ⟨0, by omega, by omega, rfl, HF2.out, HG2.out, HN2.out⟩
  case round =>
    clear HF2 HG2 HN2
    obtain ⟨k, hk, hk2, rfl, hf, hg, hn⟩ := hrel
    have HF := Lib.hid hf
    have HG := Lib.hid hg
    have HN := Lib.hid hn
    clear hf hg hn
    by_cases hlt : k < L ∧ k < 32
    · obtain ⟨hlt1, hlt2⟩ := hlt
      obtain ⟨x, hxk⟩ : ∃ x, xs[k]? = some x := ⟨xs[k]'(by rw [HL.out]; exact hlt1), by simp⟩
      obtain ⟨g, off, rfl, hgl, c0⟩ := HC.out k x hxk
      have hxb := HX.out x (List.mem_of_getElem? hxk)
      have c1 : wr.drew.cell? ⟨g, off + k, none⟩ = some (.int .u64 x) := (HN.out.cell hgl id _).trans c0
      have q1 : (0 : Int) ≤ (k : Int) := by omega
      have q2 : (k : Int) < (L : Int) := by omega
      have q3 : (k : Int) < 32 := by omega
      have HS := Lib.hid (padR_set hxk hlt2)
      clear c0 hxk
      go_wp2_with fail
      refine heldStart (fun wz => wz.cell? ⟨g, off + k, none⟩ = some (.int .u64 x)) (by kernel_rfl) ?_
      have n0 : New wr wr.drew := (Fr.refl _ _).drew
      have HF0 := Lib.hid (HF.out.new n0)
      have HG0 := Lib.hid (HG.out.new n0)
      have HN0 := Lib.hid (HN.out.trans n0)
      clear n0
      generalize wr.drew = w3 at c1 HF0 HG0 HN0 ⊢
      refine wpAnyH_take (i := 0) (v := ?_) rfl (by kernel_rfl) (by kernel_rfl) (by kernel_rfl) (fun _ _ _ h => h) (Or.inl ⟨by rfl, ?_⟩) c1 ?_
      rotate_left
      · intro w hSw; first | (obtain ⟨s1, s2, s3, s4, s5, s6, s7, s8⟩ := hSw; go_simp; rfl) | (obtain ⟨s1, s2, s3, s4, s5, s6, s7⟩ := hSw; go_simp; rfl) | (obtain ⟨s1, s2, s3⟩ := hSw; go_simp; rfl) | (obtain ⟨s1, s2⟩ := hSw; go_simp; rfl) | (have s1 := hSw; go_simp; rfl)
      go_simp
      refine wpAnyH_take (i := 1) (v := ?_) rfl (by kernel_rfl) (by kernel_rfl) (by kernel_rfl) (fun _ _ _ h => h) (Or.inl ⟨by rfl, ?_⟩) c1 ?_
      rotate_left
      · intro w hSw; first | (obtain ⟨s1, s2, s3, s4, s5, s6, s7, s8⟩ := hSw; go_simp; rfl) | (obtain ⟨s1, s2, s3, s4, s5, s6, s7⟩ := hSw; go_simp; rfl) | (obtain ⟨s1, s2, s3⟩ := hSw; go_simp; rfl) | (obtain ⟨s1, s2⟩ := hSw; go_simp; rfl) | (have s1 := hSw; go_simp; rfl)
      go_simp
      refine wpAnyH_take (i := 2) (v := ?_) rfl (by kernel_rfl) (by kernel_rfl) (by kernel_rfl) (fun _ _ _ h => h) (Or.inl ⟨by rfl, ?_⟩) c1 ?_
      rotate_left
      · intro w hSw; first | (obtain ⟨s1, s2, s3, s4, s5, s6, s7, s8⟩ := hSw; go_simp; rfl) | (obtain ⟨s1, s2, s3, s4, s5, s6, s7⟩ := hSw; go_simp; rfl) | (obtain ⟨s1, s2, s3⟩ := hSw; go_simp; rfl) | (obtain ⟨s1, s2⟩ := hSw; go_simp; rfl) | (have s1 := hSw; go_simp; rfl)
      go_simp
      refine wpAnyH_take (i := 3) (v := ?_) rfl (by kernel_rfl) (by kernel_rfl) (by kernel_rfl) (fun _ _ _ h => h) (Or.inl ⟨by rfl, ?_⟩) c1 ?_
      rotate_left
      · intro w hSw; first | (obtain ⟨s1, s2, s3, s4, s5, s6, s7, s8⟩ := hSw; go_simp; rfl) | (obtain ⟨s1, s2, s3, s4, s5, s6, s7⟩ := hSw; go_simp; rfl) | (obtain ⟨s1, s2, s3⟩ := hSw; go_simp; rfl) | (obtain ⟨s1, s2⟩ := hSw; go_simp; rfl) | (have s1 := hSw; go_simp; rfl)
      go_simp
      refine wpAnyH_take (i := 4) (v := ?_) rfl (by kernel_rfl) (by kernel_rfl) (by kernel_rfl) (fun _ _ _ h => h) (Or.inl ⟨by rfl, ?_⟩) c1 ?_
      rotate_left
      · intro w hSw; first | (obtain ⟨s1, s2, s3, s4, s5, s6, s7, s8⟩ := hSw; go_simp; rfl) | (obtain ⟨s1, s2, s3, s4, s5, s6, s7⟩ := hSw; go_simp; rfl) | (obtain ⟨s1, s2, s3⟩ := hSw; go_simp; rfl) | (obtain ⟨s1, s2⟩ := hSw; go_simp; rfl) | (have s1 := hSw; go_simp; rfl)
      go_simp
      refine wpAnyH_take (i := 5) (v := ?_) rfl (by kernel_rfl) (by kernel_rfl) (by kernel_rfl) (fun _ _ _ h => h) (Or.inl ⟨by rfl, ?_⟩) c1 ?_
      rotate_left
      · intro w hSw; first | (obtain ⟨s1, s2, s3, s4, s5, s6, s7, s8⟩ := hSw; go_simp; rfl) | (obtain ⟨s1, s2, s3, s4, s5, s6, s7⟩ := hSw; go_simp; rfl) | (obtain ⟨s1, s2, s3⟩ := hSw; go_simp; rfl) | (obtain ⟨s1, s2⟩ := hSw; go_simp; rfl) | (have s1 := hSw; go_simp; rfl)
      go_simp
      refine wpAnyH_take (i := 6) (v := ?_) rfl (by kernel_rfl) (by kernel_rfl) (by kernel_rfl) (fun _ _ _ h => h) (Or.inl ⟨by rfl, ?_⟩) c1 ?_
      rotate_left
      · intro w hSw; first | (obtain ⟨s1, s2, s3, s4, s5, s6, s7, s8⟩ := hSw; go_simp; rfl) | (obtain ⟨s1, s2, s3, s4, s5, s6, s7⟩ := hSw; go_simp; rfl) | (obtain ⟨s1, s2, s3⟩ := hSw; go_simp; rfl) | (obtain ⟨s1, s2⟩ := hSw; go_simp; rfl) | (have s1 := hSw; go_simp; rfl)
      go_simp
      refine wpAnyH_take (i := 7) (v := ?_) rfl (by kernel_rfl) (by kernel_rfl) (by kernel_rfl) (fun _ _ _ h => h) (Or.inl ⟨by rfl, ?_⟩) c1 ?_
      rotate_left
      · intro w hSw; first | (obtain ⟨s1, s2, s3, s4, s5, s6, s7, s8⟩ := hSw; go_simp; rfl) | (obtain ⟨s1, s2, s3, s4, s5, s6, s7⟩ := hSw; go_simp; rfl) | (obtain ⟨s1, s2, s3⟩ := hSw; go_simp; rfl) | (obtain ⟨s1, s2⟩ := hSw; go_simp; rfl) | (have s1 := hSw; go_simp; rfl)
      go_simp
      refine wpAnyH_take (i := 8) (v := ?_) rfl (by kernel_rfl) (by kernel_rfl) (by kernel_rfl) (fun _ _ _ h => h) (Or.inl ⟨by rfl, ?_⟩) c1 ?_
      rotate_left
      · intro w hSw; first | (obtain ⟨s1, s2, s3, s4, s5, s6, s7, s8⟩ := hSw; go_simp; rfl) | (obtain ⟨s1, s2, s3, s4, s5, s6, s7⟩ := hSw; go_simp; rfl) | (obtain ⟨s1, s2, s3⟩ := hSw; go_simp; rfl) | (obtain ⟨s1, s2⟩ := hSw; go_simp; rfl) | (have s1 := hSw; go_simp; rfl)
      go_simp
      refine wpAnyH_take (i := 9) (v := ?_) rfl (by kernel_rfl) (by kernel_rfl) (by kernel_rfl) (fun _ _ _ h => h) (Or.inl ⟨by rfl, ?_⟩) c1 ?_
      rotate_left
      · intro w hSw; first | (obtain ⟨s1, s2, s3, s4, s5, s6, s7, s8⟩ := hSw; go_simp; rfl) | (obtain ⟨s1, s2, s3, s4, s5, s6, s7⟩ := hSw; go_simp; rfl) | (obtain ⟨s1, s2, s3⟩ := hSw; go_simp; rfl) | (obtain ⟨s1, s2⟩ := hSw; go_simp; rfl) | (have s1 := hSw; go_simp; rfl)
      go_simp
      refine wpAnyH_take (i := 10) (v := ?_) rfl (by kernel_rfl) (by kernel_rfl) (by kernel_rfl) (fun _ _ _ h => h) (Or.inl ⟨by rfl, ?_⟩) c1 ?_
      rotate_left
      · intro w hSw; first | (obtain ⟨s1, s2, s3, s4, s5, s6, s7, s8⟩ := hSw; go_simp; rfl) | (obtain ⟨s1, s2, s3, s4, s5, s6, s7⟩ := hSw; go_simp; rfl) | (obtain ⟨s1, s2, s3⟩ := hSw; go_simp; rfl) | (obtain ⟨s1, s2⟩ := hSw; go_simp; rfl) | (have s1 := hSw; go_simp; rfl)
      go_simp
      refine wpAnyH_take (i := 11) (v := ?_) rfl (by kernel_rfl) (by kernel_rfl) (by kernel_rfl) (fun _ _ _ h => h) (Or.inl ⟨by rfl, ?_⟩) c1 ?_
      rotate_left
      · intro w hSw; first | (obtain ⟨s1, s2, s3, s4, s5, s6, s7, s8⟩ := hSw; go_simp; rfl) | (obtain ⟨s1, s2, s3, s4, s5, s6, s7⟩ := hSw; go_simp; rfl) | (obtain ⟨s1, s2, s3⟩ := hSw; go_simp; rfl) | (obtain ⟨s1, s2⟩ := hSw; go_simp; rfl) | (have s1 := hSw; go_simp; rfl)
      go_simp
      refine wpAnyH_take (i := 12) (v := ?_) rfl (by kernel_rfl) (by kernel_rfl) (by kernel_rfl) (fun _ _ _ h => h) (Or.inl ⟨by rfl, ?_⟩) c1 ?_
      rotate_left
      · intro w hSw; first | (obtain ⟨s1, s2, s3, s4, s5, s6, s7, s8⟩ := hSw; go_simp; rfl) | (obtain ⟨s1, s2, s3, s4, s5, s6, s7⟩ := hSw; go_simp; rfl) | (obtain ⟨s1, s2, s3⟩ := hSw; go_simp; rfl) | (obtain ⟨s1, s2⟩ := hSw; go_simp; rfl) | (have s1 := hSw; go_simp; rfl)
      go_simp
      refine wpAnyH_take (i := 13) (v := ?_) rfl (by kernel_rfl) (by kernel_rfl) (by kernel_rfl) (fun _ _ _ h => h) (Or.inl ⟨by rfl, ?_⟩) c1 ?_
      rotate_left
      · intro w hSw; first | (obtain ⟨s1, s2, s3, s4, s5, s6, s7, s8⟩ := hSw; go_simp; rfl) | (obtain ⟨s1, s2, s3, s4, s5, s6, s7⟩ := hSw; go_simp; rfl) | (obtain ⟨s1, s2, s3⟩ := hSw; go_simp; rfl) | (obtain ⟨s1, s2⟩ := hSw; go_simp; rfl) | (have s1 := hSw; go_simp; rfl)
      go_simp
      refine wpAnyH_take (i := 14) (v := ?_) rfl (by kernel_rfl) (by kernel_rfl) (by kernel_rfl) (fun _ _ _ h => h) (Or.inl ⟨by rfl, ?_⟩) c1 ?_
      rotate_left
      · intro w hSw; first | (obtain ⟨s1, s2, s3, s4, s5, s6, s7, s8⟩ := hSw; go_simp; rfl) | (obtain ⟨s1, s2, s3, s4, s5, s6, s7⟩ := hSw; go_simp; rfl) | (obtain ⟨s1, s2, s3⟩ := hSw; go_simp; rfl) | (obtain ⟨s1, s2⟩ := hSw; go_simp; rfl) | (have s1 := hSw; go_simp; rfl)
      go_simp
      refine wpAnyH_take (i := 16) (v := ?_) rfl (by kernel_rfl) (by kernel_rfl) (by kernel_rfl) (fun _ _ _ h => h) (Or.inl ⟨by rfl, ?_⟩) c1 ?_
      rotate_left
      · intro w hSw; first | (obtain ⟨s1, s2, s3, s4, s5, s6, s7, s8⟩ := hSw; go_simp; rfl) | (obtain ⟨s1, s2, s3, s4, s5, s6, s7⟩ := hSw; go_simp; rfl) | (obtain ⟨s1, s2, s3⟩ := hSw; go_simp; rfl) | (obtain ⟨s1, s2⟩ := hSw; go_simp; rfl) | (have s1 := hSw; go_simp; rfl)
      go_simp
      refine wpAnyH_take (i := 17) (v := ?_) rfl (by kernel_rfl) (by kernel_rfl) (by kernel_rfl) (fun _ _ _ h => h) (Or.inl ⟨by rfl, ?_⟩) c1 ?_
      rotate_left
      · intro w hSw; first | (obtain ⟨s1, s2, s3, s4, s5, s6, s7, s8⟩ := hSw; go_simp; rfl) | (obtain ⟨s1, s2, s3, s4, s5, s6, s7⟩ := hSw; go_simp; rfl) | (obtain ⟨s1, s2, s3⟩ := hSw; go_simp; rfl) | (obtain ⟨s1, s2⟩ := hSw; go_simp; rfl) | (have s1 := hSw; go_simp; rfl)
      go_simp
      refine heldOne (i := 15) (by kernel_rfl) rfl (by rfl) (fun K hK => ?_)
      have ya := HF0.out.fr.regD hlt2
      have yz := HF0.out.fr.free
      rw [Nat.zero_add] at ya
      go_simp
      have hf4 := HF0.out.setReg hlt2 hxb
      have hg4 := HG0.out.keep (Fr34.set (fb := fb) (o := 0) (i := 0 + 1 + k) (.int .u64 (x : Nat)) (by omega) (by omega)).fr (by omega) (fun k hk => by cases hk)
      have s4 : (w3.setCell ⟨fb, 0 + 1 + k, none⟩ (.int .u64 (x : Nat))).cell? ⟨g, off + k, none⟩ = some (.int .u64 x) := by rw [cell_set_ne _ (.inl (by omega))]; exact c1
      have hn4 := HN0.out.then (Fr34.set (fb := fb) (o := 0) (w := w3) (i := 0 + 1 + k) (.int .u64 (x : Nat)) (by omega) (by omega)).fr (fun i hi e => by omega)
      rw [Nat.zero_add] at hf4 hg4 s4 hn4
      have HF4 := Lib.hid hf4
      have HG4 := Lib.hid hg4
      have HN4 := Lib.hid hn4
      refine hK.out _ _ s4 ?_
      clear hK K ya yz hf4 hg4 hn4 c1
      generalize w3.setCell ⟨fb, 1 + k, none⟩ (.int .u64 (x : Nat)) = w4 at s4 HF4 HG4 HN4 ⊢
      refine wpAnyH_take (i := 18) (v := ?_) rfl (by kernel_rfl) (by kernel_rfl) (by kernel_rfl) (fun _ _ _ h => h) (Or.inl ⟨by rfl, ?_⟩) s4 ?_
      rotate_left
      · intro w hSw; first | (obtain ⟨s1, s2, s3, s4, s5, s6, s7, s8⟩ := hSw; go_simp; rfl) | (obtain ⟨s1, s2, s3, s4, s5, s6, s7⟩ := hSw; go_simp; rfl) | (obtain ⟨s1, s2, s3⟩ := hSw; go_simp; rfl) | (obtain ⟨s1, s2⟩ := hSw; go_simp; rfl) | (have s1 := hSw; go_simp; rfl)
      go_simp
      refine heldOne (i := 19) (by kernel_rfl) rfl (by rfl) (fun K hK => ?_)
      have ya := HG4.out.fr.regD hlt2
      have yz := HG4.out.fr.free
      rw [Nat.zero_add] at ya
      go_simp
      have hg5 := HG4.out.setReg hlt2 hxb
      have hf5 := HF4.out.keep (Fr34.set (fb := fb + 1) (o := 0) (i := 0 + 1 + k) (.int .u64 (x : Nat)) (by omega) (by omega)).fr (by omega) (fun k hk => by cases hk)
      have s5 : (w4.setCell ⟨fb + 1, 0 + 1 + k, none⟩ (.int .u64 (x : Nat))).cell? ⟨g, off + k, none⟩ = some (.int .u64 x) := by rw [cell_set_ne _ (.inl (by omega))]; exact s4
      have hn5 := HN4.out.then (Fr34.set (fb := fb + 1) (o := 0) (w := w4) (i := 0 + 1 + k) (.int .u64 (x : Nat)) (by omega) (by omega)).fr (fun i hi e => by omega)
      rw [Nat.zero_add] at hf5 hg5 s5 hn5
      rw [HS.out] at hf5 hg5
      have HF5 := Lib.hid hf5
      have HG5 := Lib.hid hg5
      have HN5 := Lib.hid hn5
      refine hK.out _ _ s5 ?_
      clear hK K ya yz hf5 hg5 hn5 s4
      refine wpAnyH_done (by kernel_rfl) ?_ _
      go_wp2
      go_roundw
      case rel => exact ⟨k + 1, by omega, by omega, by go_num, HF5.out, HG5.out, HN5.out⟩
      case measure => simp [intOf]; omega
    · have hmin : min L 32 = k := by omega
      rcases (show (k < L ∧ ¬ k < 32) ∨ ¬ k < L by omega) with ⟨h7, h8⟩ | h7
      all_goals
        have HF1 := Lib.hid (show FmAt wr fb 0 (.slice none 0 0) ⟨pc, padR xs (min L 32), []⟩ by rw [hmin]; exact HF.out)
        have HG1 := Lib.hid (show FmAt wr (fb + 1) 0 (.slice none 0 0) ⟨pc, padR xs (min L 32), []⟩ by rw [hmin]; exact HG.out)
        clear HF HG hmin
        go_wp2_with fail
        go_loopw [11] (fun i wx => i = .int .i64 0 ∧ wx = wr) (fun i _ => 0)
        case atStart => exact ⟨rfl, rfl⟩
        case round =>
          obtain ⟨rfl, rfl⟩ := hrel
          go_wp2_with fail
          go_ret2
          exact ⟨_, _, rfl, by omega, by omega, by omega, HF1.out, HG1.out, HN.out⟩

end Go.Proofs.YtngpcalgjaglmaaDoor
