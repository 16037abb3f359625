/- Telling who is in a ring: the iterator, and how many there are. -/
import Derived.Test.YtgjogiddpfnamaaDoorRingB
import Derived.RangeFuncNested
import Derived.RangeFuncBound
import Derived.RangeFuncCalls
import Derived.RangeFuncLeaves
import Derived.RangeFuncFrom
import Derived.Shelf.Abstract
import Derived.Shelf.RegionOpen
import Derived.OwnWalkIn
import Derived.TacticsInMore
import Derived.LoopNIn
import Derived.LoopIn
namespace Go.Proofs.YtgjogiddpfnamaaDoor
open Go.RowKit Go.Shelf
attribute [local go_sem] Oper.semAt_some

/-- Blocks of cells stay, but for those of S. -/
def KeepCells (S : Nat → Prop) (w w' : World) : Prop :=
  w.heap.size ≤ w'.heap.size ∧ ∀ k c T f, w.heap[k]? = some (.cells c T f) → ¬ S k → w'.heap[k]? = some (.cells c T f)
theorem KeepCells.trans {S : Nat → Prop} {a b c : World} (h : KeepCells S a b) (k : KeepCells S b c) : KeepCells S a c :=
  ⟨Nat.le_trans h.1 k.1, fun i c T f hi hs => k.2 i c T f (h.2 i c T f hi hs) hs⟩
theorem KeepCells.put {S : Nat → Prop} (W : World) (l : Nat) (o o' : Obj) (h : W.heap[l]? = some o) (hc : o.isCells = false) : KeepCells S W (W.putObj l o') :=
  ⟨by simp, fun k c T f hk _ => by
    have hne : k ≠ l := by
      intro e; subst e; rw [h] at hk; cases hk; simp [Obj.isCells] at hc
    exact (World.putObj_heap_other hne).trans hk⟩
theorem KeepCells.set (W : World) (b o : Nat) (v : Value) : KeepCells (· = b) W (W.setCell ⟨b, o, none⟩ v) :=
  ⟨by simp, fun k c T f hk hs => by rw [block_setCell_ne hs]; exact hk⟩

/-- What is told: places, and who is there. -/
def tells (L : List Nat) : List (Nat × Nat) := (List.range L.length).map fun i => (i, L.getD i 0)
theorem tells_len (L : List Nat) : (tells L).length = L.length := by simp [tells]
theorem tells_step {L : List Nat} {q x : Nat} (h : L[q]? = some x) : tells (L.take (q + 1)) = tells (L.take q) ++ [(q, x)] := by
  have hq := (List.getElem?_eq_some_iff.1 h).1
  unfold tells
  rw [List.length_take, List.length_take, Nat.min_eq_left (by omega), Nat.min_eq_left (by omega), List.range_succ, List.map_append]
  congr 1
  · apply List.map_congr_left
    intro i hi
    have := List.mem_range.1 hi
    rw [List.getD_eq_getElem?_getD, List.getD_eq_getElem?_getD, List.getElem?_take_of_lt (by omega), List.getElem?_take_of_lt (by omega)]
  · simp only [List.map_cons, List.map_nil]
    rw [List.getD_eq_getElem?_getD, List.getElem?_take_of_lt (by omega), h]; rfl
theorem tells_take (L : List Nat) (q : Nat) : tells (L.take q) <+: tells L := by
  unfold tells
  have h : (List.range (L.take q).length) <+: List.range L.length := by
    rw [List.length_take, ← List.take_range]
    exact List.take_prefix _ _
  obtain ⟨t, ht⟩ := h
  refine ⟨t.map fun i => (i, L.getD i 0), ?_⟩
  rw [← ht, List.map_append]
  congr 1
  apply List.map_congr_left
  intro i hi
  have hi' := List.mem_range.1 hi
  rw [List.length_take] at hi'
  rw [List.getD_eq_getElem?_getD, List.getD_eq_getElem?_getD, List.getElem?_take_of_lt (by omega)]

def u64c (L : List Nat) : List Value := L.map fun x : Nat => .int .u64 x
theorem u64c_snoc (L : List Nat) (x : Nat) : u64c (L ++ [x]) = u64c L ++ [.int .u64 x] := by simp [u64c]
theorem u64c_len (L : List Nat) : (u64c L).length = L.length := by simp [u64c]
theorem take_step {L : List Nat} {q x : Nat} (h : L[q]? = some x) : L.take (q + 1) = L.take q ++ [x] := by
  rw [List.take_add_one, h]; rfl

/-- The numbers of a slice that was made from block base on, each in a block of cells. -/
def Held (base : Nat) (w : World) (bo : Option Addr) (L : List Nat) : Prop :=
  ∀ j x : Nat, L[j]? = some x → ∃ g cur, bo = some ⟨g, 0, none⟩ ∧ base ≤ g ∧ w.heap[g]? = some (.cells cur 34 (0, 0)) ∧ cur[j]? = some (.int .u64 x)
theorem Held.keep {base : Nat} {w w' : World} {bo : Option Addr} {L : List Nat} (h : Held base w bo L) {S : Nat → Prop} (k : KeepCells S w w') (hs : ∀ b, base ≤ b → ¬ S b) : Held base w' bo L := fun j x hj => by
  obtain ⟨g, cur, h1, h2, h3, h4⟩ := h j x hj
  exact ⟨g, cur, h1, h2, k.2 g cur _ _ h3 (hs g h2), h4⟩
theorem held_own {w : World} {base n : Nat} {v : Value} {L : List Nat} (h : w.ownsRow base 34 1 v n (u64c L)) : ∃ bo cb, v = .slice bo n cb ∧ Held base w bo L := by
  rcases h.2 with h2 | ⟨g, cap, cur, h1, h2, h3, h4, h5, h6, h7⟩
  · have hn := h.1
    rw [u64c_len] at hn
    refine ⟨none, 0, ?_, fun j x hj => ?_⟩
    · rw [h2.1, h2.2]
    · have := (List.getElem?_eq_some_iff.1 hj).1
      omega
  · refine ⟨_, _, h1, fun j x hj => ⟨g, cur, rfl, h2, h3, ?_⟩⟩
    have hj' : (u64c L)[j]? = some (.int .u64 x) := by simp [u64c, hj]
    rw [← h7, List.getElem?_take] at hj'
    split at hj'
    · rwa [Array.getElem?_toList] at hj'
    · cases hj'
theorem Held.cell {base : Nat} {w : World} {bo : Option Addr} {L : List Nat} (h : Held base w bo L) {j x : Nat} (hj : L[j]? = some x) : ∃ g, bo = some ⟨g, 0, none⟩ ∧ g < w.heap.size ∧ w.cell? ⟨g, j, none⟩ = some (.int .u64 x) := by
  obtain ⟨g, cur, h1, h2, h3, h4⟩ := h j x hj
  exact ⟨g, h1, lt_of_block h3, by rw [cell_of_block h3]; exact h4⟩
theorem New.grown {w w' : World} (f : New w w') : w.grownBy w' none := ⟨f.os, f.tape, f.output, f.size, fun k hk _ => f.block k hk id⟩

set_option maxRecDepth 100000 in
set_option maxHeartbeats 400000 in
theorem all_any (b : Nat) (w : World) :
    Calls Tryd.prog 24 #[.pointer (some ⟨b, 0, none⟩)] w fun e w' => e = .returned (.func (.func 32) #[] #[.pointer (some ⟨w.heap.size, 0, none⟩)]) ∧
      w' = w.alloc (.cells #[.pointer (some ⟨b, 0, none⟩)] 22) := by
  go_enter Tryd.func24, Tryd.ntmps24
  go_wp2
  go_ret
  exact ⟨rfl, rfl⟩

set_option maxRecDepth 100000 in
set_option maxHeartbeats 1000000 in
theorem all1_in (n : Nat) (hn : 1 ≤ n) (l Bn b lb : Nat) (cs : List Nat) (f k0 : Nat) (S : Nat → Prop) (J Jx : List (Nat × Nat) → World → Prop)
    (hY : ∀ pre x W, J pre W → pre.length < k0 → YieldAt Fence.wide (n - 1) Tryd.prog l #[.int .i64 x.1, .int .u64 x.2] W fun e W' =>
      (e = .returned (.bool true) ∧ J (pre ++ [x]) W' ∧ KeepCells S W W') ∨ (e = .returned (.bool false) ∧ Jx (pre ++ [x]) W'))
    (W : World) (hA : AbidesFrom W.heap.size J) (hS : ∀ k, S k → k < W.heap.size) (hBn : W.cell? ⟨Bn, 0, none⟩ = some (.pointer (some ⟨b, 0, none⟩))) (hL : RingRep W b lb cs f k0) (h0 : J [] W) :
    CallsIn Fence.wide n Tryd.prog 32 #[.func (.yield l) #[] #[], .pointer (some ⟨Bn, 0, none⟩)] W fun e W' => (∃ v, e = .returned v) ∧
      ((∃ ys, ys = tells (ringL cs f k0) ∧ J ys W') ∨ (∃ pre, pre <+: tells (ringL cs f k0) ∧ Jx pre W')) := by
  have hl := hL.len
  have l1 := lt_of_cell hBn
  have l2 := hL.hd.lt
  have c2 := hL.hd.cell 2 _ rfl
  obtain ⟨L, hLL⟩ : ∃ L, ringL cs f k0 = L := ⟨_, rfl⟩
  rw [hLL]
  have hLn : L.length = k0 := by rw [← hLL, ringL_len]
  obtain ⟨i0, hi, hz0, hz1, hz2⟩ := info_parts u64Info
  have HLL := Lib.hid hLL
  have HLN := Lib.hid hLn
  have HY := Lib.hid hY
  have HR := Lib.hid hL
  have HBN := Lib.hid hBn
  clear hLL hLn hY hL
  refine callsIn_of_wp Tryd.func32 rfl trivial ?_ rfl
  simp only [Tryd.ntmps32, List.size_toArray, List.length_cons, List.length_nil, Nat.reduceAdd, Nat.reduceSub, Array.replicate_succ, Array.replicate_zero, List.push_toArray, List.append_toArray, List.nil_append, List.cons_append]
  gi_wp2_with fail
  gi_loopw [3, 11] (fun v i wr => ∃ q : Nat, q ≤ k0 ∧ i = .int .i64 q ∧ wr.ownsRow W.heap.size 34 1 v q (u64c (L.take q)) ∧ New W wr) (fun _ i _ => k0 - (intOf i).toNat)
  case atStart => exact ⟨0, by omega, rfl, World.ownsRow_nil _ _ _ _, Fr.refl _ _⟩
  case round =>
    obtain ⟨q, hq, rfl, hown, hnw⟩ := hrel
    have hr := HR.out.keep hnw id id
    have hb := (hnw.cell l1 id 0).trans HBN.out
    have hsz := hnw.size
    have HOWN := Lib.hid hown
    have HRR := Lib.hid hr
    have HNW := Lib.hid hnw
    clear hown c2 hnw
    by_cases hlt : q < k0
    · have HAT := Lib.hid (at_any b lb cs f k0 q wr hr (by omega))
      obtain ⟨x, hx⟩ : ∃ x, L[q]? = some x := ⟨L[q]'(by rw [HLN.out]; exact hlt), by simp⟩
      have hx' : cs.getD ((f + q) % cs.length) 0 = x := by
        have := hx
        rw [← HLL.out, ringL_get _ _ _ _ hlt] at this
        exact Option.some.inj this
      have HX := Lib.hid hx
      have HX' := Lib.hid hx'
      clear hr hx hx'
      gi_wp2_with fail
      first
        | refine (callsIn_wide.2 HAT.out).mono ?_
        | (refine ⟨trivial, ?_⟩; refine (callsIn_wide.2 HAT.out).mono ?_)
      rintro e w1 ⟨rfl, hn1⟩
      have h1 := HRR.out.keep hn1 id id
      obtain ⟨p, hp⟩ : ∃ p, (f + q) % cs.length = p := ⟨_, rfl⟩
      have hlp : p < cs.length := by rw [← hp]; exact Nat.mod_lt _ (by omega)
      have cp := at_map h1.cells (getD_get hlp)
      rw [show cs.getD p 0 = x by rw [← hp]; exact HX'.out] at cp
      rw [hp]
      have hown1 := own_keep HOWN.out hn1 (fun _ _ => id)
      have l3 := h1.cells.lt
      have HN1 := Lib.hid (HNW.out.trans hn1)
      have hsz1 := hn1.size
      clear hp h1 HAT HRR hn1
      gi_wp2_with (gi_at_builtin; refine wpListIn_append_own _ rfl (.tmp 14) (.tmp 20) 49 rfl W.heap.size 34 i0 _ 1 8 Tryd.underlying49 hi hz0 hz1 hz2 rfl (by decide) _ _ _ rfl (hown1.alloc _) ⟨w1.heap.size, 0, none⟩ 1 1 [.int .u64 x] rfl rfl (Arr.add (Arr.new _ _ _)) (by simp [Value.oneCell']) (by unfold maxLen; omega) (by omega) (by simp; omega) ?_; intro v' w2 hown' hgrow hnil)
      have hlt1 := hown1.lt
      have f2 : Fr (fun k => W.heap.size ≤ k) w1 w2 := ((Fr.refl _ w1).alloc _).grown hgrow (fun k hk _ => (hlt1 k hk).1)
      have HN2 := Lib.hid (HN1.out.then f2 (fun i hi e => by omega))
      clear f2 hgrow hnil hlt1
      go_roundw
      case rel => exact ⟨q + 1, by omega, by go_num, by rw [take_step HX.out, u64c_snoc]; exact hown', HN2.out⟩
      case measure => simp [intOf]; omega
    · have hown := HOWN.out
      rw [List.take_of_length_le (by rw [HLN.out]; omega)] at hown
      obtain ⟨bo, cb, rfl, hheld⟩ := held_own hown
      obtain rfl : k0 = q := by omega
      have HD := Lib.hid hheld
      have HJ := Lib.hid (hA [] W wr none h0 HNW.out.grown (fun _ h => by cases h))
      clear hr hown hheld HOWN
      gi_wp2_with fail
      gi_loopw [25] (fun i wq => ∃ j : Nat, j ≤ k0 ∧ i = .int .i64 j ∧ Held W.heap.size wq bo L ∧ J (tells (L.take j)) wq) (fun i _ => k0 - (intOf i).toNat)
      case atStart => exact ⟨0, by omega, rfl, HD.out, HJ.out⟩
      case round =>
        obtain ⟨j, hj, rfl, hheld, hjj⟩ := hrel
        clear HJ
        by_cases hlt2 : j < k0
        · obtain ⟨x, hx⟩ : ∃ x, L[j]? = some x := ⟨L[j]'(by rw [HLN.out]; exact hlt2), by simp⟩
          obtain ⟨g, rfl, hg, hc⟩ := hheld.cell hx
          obtain ⟨fn, tmps, assign, body, hy, hR⟩ := HY.out _ (j, x) _ hjj (by rw [tells_len, List.length_take, HLN.out]; omega)
          dsimp only at hy
          have HX := Lib.hid hx
          have HHD := Lib.hid hheld
          clear hx hheld hjj
          gi_wp2
          refine hR.mono ?_
          rintro e W3 (⟨rfl, hJ3, hk3⟩ | ⟨rfl, hJx3⟩)
          · have HH3 := Lib.hid (HHD.out.keep hk3 (fun b hb hs => by have := hS b hs; omega))
            gi_wp2
            go_roundw
            case rel => exact ⟨j + 1, by omega, by go_num, HH3.out, by rw [tells_step HX.out]; exact hJ3⟩
            case measure => simp [intOf]; omega
          · gi_wp2
            refine bodyPost_ret (results_none rfl _ _ _) rfl ?_
            exact ⟨⟨_, rfl⟩, .inr ⟨_, (by rw [← tells_step HX.out]; exact tells_take _ _), hJx3⟩⟩
        · gi_wp2
          go_end0
          exact ⟨⟨_, rfl⟩, .inl ⟨_, rfl, by rw [List.take_of_length_le (by rw [HLN.out]; omega)] at hjj; exact hjj⟩⟩

set_option maxRecDepth 100000 in
set_option maxHeartbeats 2000000 in
theorem len_any (b lb : Nat) (cs : List Nat) (f k0 : Nat) (w : World) (hL : RingRep w b lb cs f k0) :
    Calls Tryd.prog 11 #[.pointer (some ⟨b, 0, none⟩)] w fun e w' => e = .returned (.int .i64 k0) ∧ New w w' := by
  have hlen := hL.len
  obtain ⟨T, hT⟩ : ∃ T, tells (ringL cs f k0) = T := ⟨_, rfl⟩
  have hTl : T.length = k0 := by rw [← hT, tells_len, ringL_len]
  refine (callsIn_wide (n := 4)).1 ?_
  have h1 : 1 ≤ 4 := by omega
  refine callsIn_of_wp_marks Tryd.func11 rfl trivial ?_ rfl
  simp only [Tryd.ntmps11, List.size_toArray, List.length_cons, List.length_nil, Nat.reduceAdd, Nat.reduceSub, Array.replicate_succ, Array.replicate_zero, List.push_toArray, List.append_toArray, List.nil_append, List.cons_append]
  gi_wp2_with (first | (gi_at_call 24; refine (callsIn_wide.2 (all_any _ _)).mono ?_; rintro e w' ⟨rfl, rfl⟩) | (refine ⟨trivial, ?_⟩; gi_at_call 24; refine (callsIn_wide.2 (all_any _ _)).mono ?_; rintro e w' ⟨rfl, rfl⟩))
  have hb : (w.alloc (.cells #[.int .i64 0] 3)).cell? ⟨w.heap.size, 0, none⟩ = some (.int .i64 0) := by rw [World.cell?_alloc_new]; rfl
  have hfb : (w.alloc (.cells #[.int .i64 0] 3)).frozen? ⟨w.heap.size, 0, none⟩ = false := World.frozen?_alloc_new _ _ _ _
  obtain ⟨W1, hW1⟩ : ∃ W1, (w.alloc (.cells #[.int .i64 0] 3)).alloc (.cells #[.pointer (some ⟨b, 0, none⟩)] 22) = W1 := ⟨_, rfl⟩
  have hsz : W1.heap.size = w.heap.size + 2 := by rw [← hW1]; simp
  have f1 : New w W1 := by rw [← hW1]; exact ((Fr.refl _ _).alloc _).alloc _
  have hL1 : RingRep W1 b lb cs f k0 := hL.keep f1 id id
  have hBn : W1.cell? ⟨w.heap.size + 1, 0, none⟩ = some (.pointer (some ⟨b, 0, none⟩)) := by
    rw [← hW1]; have := World.cell?_alloc_new (w.alloc (.cells #[.int .i64 0] 3)) #[.pointer (some ⟨b, 0, none⟩)] 22 0
    rw [World.size_alloc] at this; exact this
  have hb1 : W1.cell? ⟨w.heap.size, 0, none⟩ = some (.int .i64 0) := by
    rw [← hW1, World.cell?_alloc_past _ _ _ (by simp)]; exact hb
  have hf1 : W1.frozen? ⟨w.heap.size, 0, none⟩ = false := by
    rw [← hW1, World.frozen?_alloc_past _ _ _ (by simp)]; exact hfb
  rw [hW1]
  refine wpIn_rangeFunc_ownF rfl h1 (gf := 32) (lb := #[.pointer (some ⟨w.heap.size + 1, 0, none⟩)]) rfl trivial (enters_of Tryd.func32 (by kernel_rfl) rfl)
    (encs := fun x : Nat × Nat => #[.int .i64 x.1, .int .u64 x.2]) (Kp := KeepCells (· = w.heap.size)) (S := fun xs => xs = T) (Sp := fun pre => pre <+: T) (N := k0) (w0 := W1)
    (fun l J Jx W hW hA _ hY h0 => by
      have hf : New W1 W := Fr.ofBelow (B := W1.heap.size) hW (fun k h1 h2 => by omega)
      have := all1_in (4 - 1) (by omega) l (w.heap.size + 1) b lb cs f k0 (· = w.heap.size) J Jx hY W hA (fun k hk => by have := hf.size; omega)
        ((hf.cell (lt_of_cell hBn) id 0).trans hBn) (hL1.keep hf id id) h0
      rw [hT] at this
      exact this)
    KeepCells.trans (fun W l o o' _ ho hc _ => KeepCells.put W l o o' ho hc) (Below.refl _ _) (fun _ => rfl)
    (fun pre W => (W.cell? ⟨w.heap.size, 0, none⟩ = some (.int .i64 pre.length) ∧ W.frozen? ⟨w.heap.size, 0, none⟩ = false) ∧ Below w.heap.size w W)
    (fun _ _ _ => False)
    (OwnFrom.and (Own.from (fun s A B row hs hg hr => ⟨cell_kept hs.1 hg hr, (frozen_kept hs.1 hg hr).trans hs.2⟩) _) (ownFrom_below (Nat.le_refl _) (by omega)))
    (fun _ _ _ _ _ hs _ _ => hs)
    ⟨⟨hb1, hf1⟩, f1.below (Nat.le_refl _) (fun _ h => h.elim)⟩
    (fun x => { tmps := #[.pointer (some ⟨b, 0, none⟩), undef, .int .i64 0, .pointer (some ⟨w.heap.size, 0, none⟩), .pointer (some ⟨b, 0, none⟩), .func (.func 32) #[] #[.pointer (some ⟨w.heap.size + 1, 0, none⟩)], .int .i64 x.1, .int .u64 x.2, undef, undef, undef], defers := [] }) ?assign ?body ?done ?stop
  case assign =>
    intro l x W K hK
    simp
    gi_wp2
    exact hK
  case body =>
    rintro l pre x W ⟨⟨hc, hf⟩, hB⟩ hlt
    gi_wp2
    exact ⟨KeepsOthers.setCell _ _ _, KeepCells.set _ _ _ _, ⟨by rw [List.length_append]; exact World.cell?_setCell_same' _ _ _ (by rw [hc]; rfl), by rw [World.frozen?_setCell]; exact hf⟩, hB.setCell (p := ⟨w.heap.size, 0, none⟩) (Nat.le_refl _) _⟩
  case done =>
    rintro D ys W hD rfl ⟨⟨hc, _⟩, hB⟩ hK
    rw [hTl] at hc
    gi_wp2
    refine ⟨by simp, .inl ⟨_, _, rfl, run_takeDeferred hK, ?_⟩⟩
    exact ⟨_, results_tmp rfl _ _ _, rfl, Fr.ofBelow (hB.trans (belowK_b (w := W1) (by omega) W D _ _ hD hK rfl rfl)) (fun k h1 h2 => by omega)⟩
  case stop =>
    rintro D c pre W _ _ h _
    exact h.elim

end Go.Proofs.YtgjogiddpfnamaaDoor
