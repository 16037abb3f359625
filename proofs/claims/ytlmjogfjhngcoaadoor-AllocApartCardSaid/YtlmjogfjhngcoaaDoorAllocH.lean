/- Telling which blocks are taken: the iterator, and how many cells they have. -/
import Derived.Test.YtlmjogfjhngcoaaDoorAllocG
import Derived.RangeFuncNested
import Derived.RangeFuncBound
import Derived.RangeFuncCalls
import Derived.RangeFuncLeaves
import Derived.RangeFuncFrom
import Derived.Shelf.Abstract
import Derived.Shelf.RegionOpen
import Derived.OwnWalkIn
import Derived.TacticsInMore
import Derived.LoopNIn
import Derived.LoopIn
namespace Go.Proofs.YtlmjogfjhngcoaaDoor
open Go.RowKit Go.Shelf
attribute [local go_sem] Oper.semAt_some

/-- append of nothing, inside a fence. -/
theorem wpListIn_append_none {F : Fence} {n : Nat} {P : Program} {w : World} {ops : Array Oper} {rest : List Oper} {o : Oper} {a : Act} {Q : Exit → Act → World → Prop} (hgd : o.guard = none) (s x : Operand) (t : TypeId)
    (ho : o.op = .call { callee := .builtin .append, args := #[s, x], argTypes := #[t, t] })
    (base : Nat) (e : TypeId) (i : TypeInfo) (size : Nat) (ht : P.underlying t = some (.slice e)) (hi : P.info? e = some i)
    (v : Value) (k : Nat) (xs : List Value) (hs : a.eval s = v) (hown : w.ownsRow base e size v k xs) (hx : a.eval x = .slice none 0 0)
    (h : wpListIn F n P ops Q rest (a.put o.dst v) w) : wpListIn F n P ops Q (o :: rest) a w := by
  refine wpListIn_plain hgd fun K hK => ?_
  have hrun := run_append_owned_none (P := P) (w := w) base t o.type e i size ht hi v k xs hown
  unfold Oper.wpIn
  refine ⟨?_, ?_⟩
  · simp [Oper.about, ho, resolve, Target.leads, Sem.run_pure]
  · rw [Oper.semAt_plain F _ _ (by rw [ho]; intro c hc'; cases hc')]
    simp [execOp, ho, resolve, invoke, builtin, hs, hx, hrun, Result.andThen]
    exact hK _ _ h
theorem wpListIn_append_src {F : Fence} {k0 : Nat} {P : Program} {w : World} {ops : Array Oper} {rest : List Oper} {o : Oper} {a : Act} {Q : Exit → Act → World → Prop} (hgd : o.guard = none) (s x : Operand) (t : TypeId)
    (ho : o.op = .call { callee := .builtin .append, args := #[s, x], argTypes := #[t, t] })
    (base : Nat) (e : TypeId) (i : TypeInfo) (z : Value) (size bytes : Nat) (ht : P.underlying t = some (.slice e)) (hi : P.info? e = some i) (hz : i.zero = some z)
    (hsize : i.size = size) (hby : i.bytes = bytes) (hzs : z.cells.size = size) (hsz : 0 < size)
    (v : Value) (n : Nat) (xs : List Value) (hs : a.eval s = v) (hown : w.ownsRow base e size v n xs)
    (A : Option Addr) (m c : Nat) (news : List Value) (hx : a.eval x = .slice A m c) (hl : news.length = m * size) (hr : Src w A m c news) (h1 : ∀ u ∈ news, u.oneCell' = true)
    (h63 : n + m ≤ maxLen) (hbytes : (n + m) * bytes ≤ 140737488355328) (hbase : base ≤ w.heap.size)
    (h : ∀ v' w', w'.ownsRow base e size v' (n + m) (xs ++ news) → w.grownBy w' v.ownBlock → wpListIn F k0 P ops Q rest (a.put o.dst v') w') : wpListIn F k0 P ops Q (o :: rest) a w := by
  rcases hr with ⟨rfl, rfl, rfl, rfl⟩ | ⟨ad, rfl, _, hc⟩
  · exact wpListIn_append_none hgd s x t ho base e i size ht hi v n xs hs hown hx (h v w (by simpa using hown) (World.grownBy.refl w _))
  · exact wpListIn_append_own w hgd s x t ho base e i z size bytes ht hi hz hsize hby hzs hsz v n xs hs hown ad m c news hx hl hc h1 h63 hbytes hbase (fun v' w' a1 a2 _ => h v' w' a1 a2)

/-- Blocks of cells stay, but for those of S. -/
def KeepCells (S : Nat → Prop) (w w' : World) : Prop :=
  w.heap.size ≤ w'.heap.size ∧ ∀ k c T f, w.heap[k]? = some (.cells c T f) → ¬ S k → w'.heap[k]? = some (.cells c T f)
theorem KeepCells.trans {S : Nat → Prop} {a b c : World} (h : KeepCells S a b) (k : KeepCells S b c) : KeepCells S a c :=
  ⟨Nat.le_trans h.1 k.1, fun i c T f hi hs => k.2 i c T f (h.2 i c T f hi hs) hs⟩
theorem KeepCells.put {S : Nat → Prop} (W : World) (l : Nat) (o o' : Obj) (h : W.heap[l]? = some o) (hc : o.isCells = false) : KeepCells S W (W.putObj l o') :=
  ⟨by simp, fun k c T f hk _ => by
    have hne : k ≠ l := by
      intro e; subst e; rw [h] at hk; cases hk; simp [Obj.isCells] at hc
    exact (World.putObj_heap_other hne).trans hk⟩
theorem KeepCells.set (W : World) (b o : Nat) (v : Value) : KeepCells (· = b) W (W.setCell ⟨b, o, none⟩ v) :=
  ⟨by simp, fun k c T f hk hs => by rw [block_setCell_ne hs]; exact hk⟩
theorem KeepCells.new {S : Nat → Prop} {w w' : World} (f : New w w') : KeepCells S w w' := ⟨f.size, fun k c T f' hk _ => (f.block k (lt_of_block hk) id).trans hk⟩
theorem New.grown {w w' : World} (f : New w w') : w.grownBy w' none := ⟨f.os, f.tape, f.output, f.size, fun k hk _ => f.block k hk id⟩

/-- A block as a value. -/
def bV (b : Bk) : Value := .agg #[.int .i64 b.pos, .int .i64 b.num, .int .i64 b.wid]
/-- The blocks of a slice that was made from block base on. -/
def HeldB (base : Nat) (w : World) (bo : Option Addr) (L : List Bk) : Prop :=
  ∀ (j : Nat) (b : Bk), L[j]? = some b → ∃ g cur, bo = some ⟨g, 0, none⟩ ∧ base ≤ g ∧ w.heap[g]? = some (.cells cur 43 (0, 0)) ∧ ∀ i u, (bC b)[i]? = some u → cur[j * 3 + i]? = some u
theorem HeldB.keep {base : Nat} {w w' : World} {bo : Option Addr} {L : List Bk} (h : HeldB base w bo L) {S : Nat → Prop} (k : KeepCells S w w') (hs : ∀ b, base ≤ b → ¬ S b) : HeldB base w' bo L := fun j x hj => by
  obtain ⟨g, cur, h1, h2, h3, h4⟩ := h j x hj
  exact ⟨g, cur, h1, h2, k.2 g cur _ _ h3 (hs g h2), h4⟩
theorem heldB_own {w : World} {base n : Nat} {v : Value} {L : List Bk} (h : w.ownsRow base 43 3 v n (L.flatMap bC)) : ∃ bo cb, v = .slice bo n cb ∧ HeldB base w bo L := by
  rcases h.2 with h2 | ⟨g, cap, cur, h1, h2, h3, h4, h5, h6, h7⟩
  · have hn := h.1
    rw [len_flatMap bC 3 bC_len] at hn
    refine ⟨none, 0, ?_, fun j x hj => ?_⟩
    · rw [h2.1, h2.2]
    · have := (List.getElem?_eq_some_iff.1 hj).1
      omega
  · refine ⟨_, _, h1, fun j x hj => ⟨g, cur, rfl, h2, h3, fun i u hu => ?_⟩⟩
    have hi : i < 3 := by have := (List.getElem?_eq_some_iff.1 hu).1; rwa [bC_len] at this
    have hj' : (L.flatMap bC)[j * 3 + i]? = some u := by rw [get_flatMap bC 3 bC_len _ _ _ hi, hj]; exact hu
    rw [← h7, List.getElem?_take] at hj'
    split at hj'
    · rwa [Array.getElem?_toList] at hj'
    · cases hj'
theorem HeldB.cell {base : Nat} {w : World} {bo : Option Addr} {L : List Bk} (h : HeldB base w bo L) {j : Nat} {b : Bk} (hj : L[j]? = some b) : ∃ g, bo = some ⟨g, 0, none⟩ ∧ g < w.heap.size ∧ ∀ i u, (bC b)[i]? = some u → w.cell? ⟨g, j * 3 + i, none⟩ = some u := by
  obtain ⟨g, cur, h1, h2, h3, h4⟩ := h j b hj
  exact ⟨g, h1, lt_of_block h3, fun i u hu => by rw [cell_of_block h3]; exact h4 i u hu⟩
theorem takeB {L : List Bk} {q : Nat} {x : Bk} (h : L[q]? = some x) : L.take (q + 1) = L.take q ++ [x] := by
  rw [List.take_add_one, h]; rfl

set_option maxRecDepth 100000 in
set_option maxHeartbeats 400000 in
theorem blocks_any (ab : Nat) (w : World) :
    Calls Tryd.prog 39 #[.pointer (some ⟨ab, 0, none⟩)] w fun e w' => e = .returned (.func (.func 52) #[] #[.pointer (some ⟨w.heap.size, 0, none⟩)]) ∧
      w' = w.alloc (.cells #[.pointer (some ⟨ab, 0, none⟩)] 24) := by
  go_enter Tryd.func39, Tryd.ntmps39
  go_wp2
  go_ret
  exact ⟨rfl, rfl⟩

set_option maxRecDepth 100000 in
set_option maxHeartbeats 1000000 in
theorem blocks1_in (n : Nat) (hn : 1 ≤ n) (l Bn ab mb : Nat) (v : Value) (F T : Int) (L : List Bk) (S : Nat → Prop) (J Jx : List Bk → World → Prop)
    (hY : ∀ pre x W, J pre W → pre.length < L.length → YieldAt Fence.wide (n - 1) Tryd.prog l #[bV x] W fun e W' =>
      (e = .returned (.bool true) ∧ J (pre ++ [x]) W' ∧ KeepCells S W W') ∨ (e = .returned (.bool false) ∧ Jx (pre ++ [x]) W'))
    (W : World) (hA : AbidesFrom W.heap.size J) (hS : ∀ k, S k → k < W.heap.size) (hBn : W.cell? ⟨Bn, 0, none⟩ = some (.pointer (some ⟨ab, 0, none⟩))) (hL : AllocRep W ab mb v F T L) (h0 : J [] W) :
    CallsIn Fence.wide n Tryd.prog 52 #[.func (.yield l) #[] #[], .pointer (some ⟨Bn, 0, none⟩)] W fun e W' => (∃ v, e = .returned v) ∧
      ((∃ ys, ys = L ∧ J ys W') ∨ (∃ pre, pre <+: L ∧ Jx pre W')) := by
  have hfew := hL.few
  have l1 := lt_of_cell hBn
  have l2 := lt_of_block hL.hd
  have c3 : W.cell? ⟨ab, 3, none⟩ = some v := cell_of_block hL.hd 3
  obtain ⟨ao, ca, rfl, _⟩ := owned_form hL.own
  have hsrc := Src.of_own hL.own
  have hle : (L.flatMap bC).length = L.length * 3 := len_flatMap bC 3 bC_len L
  obtain ⟨N, hN⟩ : ∃ N, L.length = N := ⟨_, rfl⟩
  obtain ⟨i0, hi, hz0, hz1, hz2⟩ := info_parts blkInfo
  rw [hN] at hfew c3 hsrc hle hY
  have hown := World.ownsRow_lit (base := W.heap.size) (e := 43) (size := 3) W #[] 0 (Nat.le_refl _) (Nat.zero_le _) rfl
  have HLE := Lib.hid hle
  have HS := Lib.hid hsrc
  have HN := Lib.hid hN
  have HY := Lib.hid hY
  have HBN := Lib.hid hBn
  clear hN hY hL hsrc hle
  refine callsIn_of_wp Tryd.func52 rfl trivial ?_ rfl
  simp only [Tryd.ntmps52, List.size_toArray, List.length_cons, List.length_nil, Nat.reduceAdd, Nat.reduceSub, Array.replicate_succ, Array.replicate_zero, List.push_toArray, List.append_toArray, List.nil_append, List.cons_append]
  gi_wp2_with (gi_at_builtin; refine wpListIn_append_src rfl (.tmp 5) (.tmp 9) 40 rfl W.heap.size 43 i0 _ 3 24 Tryd.underlying40 hi hz0 hz1 hz2 rfl (by decide) _ _ _ rfl hown ao N ca (L.flatMap bC) rfl HLE.out (HS.out.keep ((Fr.refl (fun _ => False) _).alloc _) (fun _ _ => id)) (bC_one _) (by unfold maxLen; omega) (by omega) (by simp) ?_; intro v2 w2 hown2 hgrow2; rw [List.nil_append, Nat.zero_add] at hown2; have f2 : Fr (fun k => W.heap.size ≤ k) W w2 := ((Fr.refl _ W).alloc _).grown hgrow2 (fun k hk _ => by cases hk; exact Nat.le_refl _); have n2 : New W w2 := (Fr.refl _ _).then f2 (fun i hi e => by omega); obtain ⟨bo, cb, rfl, hheld⟩ := heldB_own hown2; have HH := Lib.hid hheld; have HJ := Lib.hid (hA [] W w2 none h0 n2.grown (fun _ h => by cases h)); have hs2 := f2.size; clear hgrow2 hown2 f2 hown hheld n2)
  gi_loopw [12] (fun i wq => ∃ j : Nat, j ≤ N ∧ i = .int .i64 j ∧ HeldB W.heap.size wq bo L ∧ J (L.take j) wq ∧ W.heap.size ≤ wq.heap.size) (fun i _ => N - (intOf i).toNat)
  case atStart => exact ⟨0, by omega, rfl, HH.out, HJ.out, by omega⟩
  case round =>
    obtain ⟨j, hj, rfl, hheld, hjj, hsz⟩ := hrel
    clear HJ
    by_cases hlt2 : j < N
    · obtain ⟨x, hx⟩ : ∃ x, L[j]? = some x := ⟨L[j]'(by rw [HN.out]; exact hlt2), by simp⟩
      obtain ⟨g, rfl, hg, hc⟩ := hheld.cell hx
      have x0 : wr.cell? ⟨g, j * 3, none⟩ = some (.int .i64 x.pos) := hc 0 _ rfl
      have x1 : wr.cell? ⟨g, j * 3 + 1, none⟩ = some (.int .i64 x.num) := hc 1 _ rfl
      have x2 : wr.cell? ⟨g, j * 3 + 2, none⟩ = some (.int .i64 x.wid) := hc 2 _ rfl
      have HY1 := Lib.hid (fun W1 (f : New wr W1) => HY.out (L.take j) x W1 (hA _ wr W1 none hjj f.grown (fun _ h => by cases h)) (by rw [List.length_take, HN.out]; omega))
      have HX := Lib.hid hx
      have HHD := Lib.hid hheld
      have q1 : (0 : Int) ≤ (j : Int) := by omega
      have q2 : (j : Int) < (N : Int) := by omega
      clear hx hheld hjj hc
      obtain ⟨fn, tmps, assign, body, hy, hR⟩ := HY1.out (wr.alloc (.cells #[.int .i64 x.pos, .int .i64 x.num, .int .i64 x.wid] 43)) ((Fr.refl _ _).alloc _)
      unfold bV at hy
      clear HY1
      gi_wp2
      refine hR.mono ?_
      rintro e W3 (⟨rfl, hJ3, hk3⟩ | ⟨rfl, hJx3⟩)
      · have HH3 := Lib.hid ((HHD.out.keep (KeepCells.new (S := S) ((Fr.refl _ _).alloc _)) (fun b hb hs => by have := hS b hs; omega)).keep hk3 (fun b hb hs => by have := hS b hs; omega))
        have hs3 : W.heap.size ≤ W3.heap.size := by have := hk3.1; simp at this; omega
        gi_wp2
        go_roundw
        case rel => exact ⟨j + 1, by omega, by go_num, HH3.out, by rw [takeB HX.out]; exact hJ3, hs3⟩
        case measure => simp [intOf]; omega
      · gi_wp2
        refine bodyPost_ret (results_none rfl _ _ _) rfl ?_
        exact ⟨⟨_, rfl⟩, .inr ⟨_, (by rw [← takeB HX.out]; exact List.take_prefix _ _), hJx3⟩⟩
    · gi_wp2
      go_end0
      exact ⟨⟨_, rfl⟩, .inl ⟨_, rfl, by rw [List.take_of_length_le (by rw [HN.out]; omega)] at hjj; exact hjj⟩⟩

theorem used_le {F T : Int} : ∀ {l : List Bk}, (∀ b ∈ l, F ≤ b.pos ∧ 1 ≤ b.num ∧ b.pos + b.num ≤ T) → l.Pairwise (fun a b => a.pos + a.num ≤ b.pos) → F ≤ T → 0 ≤ usedN l ∧ F + usedN l ≤ T
  | [], _, _, h => ⟨Int.le_refl _, by show F + 0 ≤ T; omega⟩
  | b :: l, h, hp, hT => by
    have hb := h b (by simp)
    have hp2 := List.pairwise_cons.1 hp
    have := used_le (F := b.pos + b.num) (T := T) (l := l) (fun x hx => by have := h x (by simp [hx]); have := hp2.1 x hx; omega) hp2.2 (by omega)
    show 0 ≤ b.num + usedN l ∧ F + (b.num + usedN l) ≤ T
    omega
theorem Fits.used {F T : Int} {l : List Bk} (h : Fits F T l) : 0 ≤ usedN l ∧ F + usedN l ≤ T := used_le h.inn h.srt h.lo.2.1
theorem Fits.usedPre {F T : Int} {l pre : List Bk} (h : Fits F T l) (hp : pre <+: l) : 0 ≤ usedN pre ∧ F + usedN pre ≤ T := by
  obtain ⟨r, rfl⟩ := hp
  exact used_le (fun b hb => h.inn b (List.mem_append_left _ hb)) (List.pairwise_append.1 h.srt).1 h.lo.2.1

set_option maxRecDepth 100000 in
set_option maxHeartbeats 2000000 in
theorem used_any (ab mb : Nat) (v : Value) (F T : Int) (L : List Bk) (w : World) (hL : AllocRep w ab mb v F T L) :
    Calls Tryd.prog 21 #[.pointer (some ⟨ab, 0, none⟩)] w fun e w' => e = .returned (.int .i64 (usedN L)) ∧ New w w' := by
  have hfit := hL.fit
  refine (callsIn_wide (n := 4)).1 ?_
  have h1 : 1 ≤ 4 := by omega
  refine callsIn_of_wp_marks Tryd.func21 rfl trivial ?_ rfl
  simp only [Tryd.ntmps21, List.size_toArray, List.length_cons, List.length_nil, Nat.reduceAdd, Nat.reduceSub, Array.replicate_succ, Array.replicate_zero, List.push_toArray, List.append_toArray, List.nil_append, List.cons_append]
  gi_wp2_with (first | (gi_at_call 39; refine (callsIn_wide.2 (blocks_any _ _)).mono ?_; rintro e w' ⟨rfl, rfl⟩) | (refine ⟨trivial, ?_⟩; gi_at_call 39; refine (callsIn_wide.2 (blocks_any _ _)).mono ?_; rintro e w' ⟨rfl, rfl⟩))
  have hb : (w.alloc (.cells #[.int .i64 0] 3)).cell? ⟨w.heap.size, 0, none⟩ = some (.int .i64 0) := by rw [World.cell?_alloc_new]; rfl
  have hfb : (w.alloc (.cells #[.int .i64 0] 3)).frozen? ⟨w.heap.size, 0, none⟩ = false := World.frozen?_alloc_new _ _ _ _
  obtain ⟨W1, hW1⟩ : ∃ W1, (w.alloc (.cells #[.int .i64 0] 3)).alloc (.cells #[.pointer (some ⟨ab, 0, none⟩)] 24) = W1 := ⟨_, rfl⟩
  have hsz : W1.heap.size = w.heap.size + 2 := by rw [← hW1]; simp
  have f1 : New w W1 := by rw [← hW1]; exact ((Fr.refl _ _).alloc _).alloc _
  have hL1 : AllocRep W1 ab mb v F T L := hL.new f1
  have hBn : W1.cell? ⟨w.heap.size + 1, 0, none⟩ = some (.pointer (some ⟨ab, 0, none⟩)) := by
    rw [← hW1]; have := World.cell?_alloc_new (w.alloc (.cells #[.int .i64 0] 3)) #[.pointer (some ⟨ab, 0, none⟩)] 24 0
    rw [World.size_alloc] at this; exact this
  have hb1 : W1.cell? ⟨w.heap.size, 0, none⟩ = some (.int .i64 0) := by
    rw [← hW1, World.cell?_alloc_past _ _ _ (by simp)]; exact hb
  have hf1 : W1.frozen? ⟨w.heap.size, 0, none⟩ = false := by
    rw [← hW1, World.frozen?_alloc_past _ _ _ (by simp)]; exact hfb
  rw [hW1]
  refine wpIn_rangeFunc_ownH rfl h1 (gf := 52) (lb := #[.pointer (some ⟨w.heap.size + 1, 0, none⟩)]) rfl trivial (enters_of Tryd.func52 (by kernel_rfl) rfl)
    (encs := fun x : Bk => #[bV x]) (Kp := KeepCells (· = w.heap.size)) (S := fun xs => xs = L) (Sp := fun pre => pre <+: L) (N := L.length) (w0 := W1)
    (fun l J Jx W hW hA _ hY h0 => by
      have hf : New W1 W := Fr.ofBelow (B := W1.heap.size) hW (fun k h1 h2 => by omega)
      exact blocks1_in (4 - 1) (by omega) l (w.heap.size + 1) ab mb v F T L (· = w.heap.size) J Jx hY W hA (fun k hk => by have := hf.size; omega)
        ((hf.cell (lt_of_cell hBn) id 0).trans hBn) (hL1.new hf) h0)
    KeepCells.trans (fun W l o o' _ ho hc _ => KeepCells.put W l o o' ho hc) (Below.refl _ _) (fun _ => rfl)
    (fun pre W => (W.cell? ⟨w.heap.size, 0, none⟩ = some (.int .i64 (wrap64 (usedN pre))) ∧ W.frozen? ⟨w.heap.size, 0, none⟩ = false) ∧ Below w.heap.size w W)
    (fun _ _ _ => False)
    (OwnFrom.and (Own.from (fun s A B row hs hg hr => ⟨cell_kept hs.1 hg hr, (frozen_kept hs.1 hg hr).trans hs.2⟩) _) (ownFrom_below (Nat.le_refl _) (by omega)))
    (fun _ _ _ _ _ hs _ _ => hs)
    ⟨⟨by rw [show wrap64 (usedN []) = 0 by unfold wrap64 usedN; omega]; exact hb1, hf1⟩, f1.below (Nat.le_refl _) (fun _ h => h.elim)⟩
    (fun x a' W => ∃ B, W.cell? ⟨B, 1, none⟩ = some (.int .i64 x.num) ∧ a' = { tmps := #[.pointer (some ⟨ab, 0, none⟩), undef, .int .i64 0, .pointer (some ⟨w.heap.size, 0, none⟩), .pointer (some ⟨B, 0, none⟩), .pointer (some ⟨ab, 0, none⟩), .func (.func 52) #[] #[.pointer (some ⟨w.heap.size + 1, 0, none⟩)], bV x, undef, undef, undef, undef, undef], defers := [] })
    (fun x a' s A B row hs hg hr => by
      obtain ⟨B', h2, h3⟩ := hs
      exact ⟨B', cell_kept h2 hg (fun r e => (hr r e).2), h3⟩) ?assign ?body ?done ?stop
  case assign =>
    intro l pre x W K hi hK
    simp [bV]
    gi_wp2
    have fn : New W (W.alloc (.cells #[.int .i64 x.pos, .int .i64 x.num, .int .i64 x.wid] 43)) := (Fr.refl _ _).alloc _
    obtain ⟨⟨hc, hf⟩, hB⟩ := hi
    refine hK _ _ ⟨fn.size, fun k o _ hk _ => (fn.block k (Array.getElem?_eq_some_iff.1 hk).1 id).trans hk⟩ (KeepCells.new fn) ⟨⟨(fn.cell (lt_of_cell hc) id 0).trans hc, (fn.frozen (lt_of_cell hc) id 0).trans hf⟩, hB.alloc (by have := hB.size; omega) _⟩ ⟨W.heap.size, ?_, rfl⟩
    · rw [World.cell?_alloc_new]; rfl
  case body =>
    rintro l pre x a' W hl _ ⟨⟨hc, hf⟩, hB⟩ ⟨B, hB2, rfl⟩ hlt
    gi_wp2
    have e : wrap64 (wrap64 (usedN pre) + x.num) = wrap64 (usedN (pre ++ [x])) := by rw [usedN_snoc]; unfold wrap64; omega
    rw [e]
    exact ⟨(KeepsOthers.setCell _ _ _).from _, KeepCells.set _ _ _ _, ⟨World.cell?_setCell_same' _ _ _ (by rw [hc]; rfl), by rw [World.frozen?_setCell]; exact hf⟩, hB.setCell (p := ⟨w.heap.size, 0, none⟩) (Nat.le_refl _) _⟩
  case done =>
    rintro D ys W hD rfl ⟨⟨hc, _⟩, hB⟩ hK
    have hu := hfit.used
    have hlo := hfit.lo
    rw [show wrap64 (usedN ys) = usedN ys by unfold wrap64; omega] at hc
    gi_wp2
    refine ⟨by simp, .inl ⟨_, _, rfl, run_takeDeferred hK, ?_⟩⟩
    exact ⟨_, results_tmp rfl _ _ _, rfl, Fr.ofBelow (hB.trans (belowK_b (w := W1) (by omega) W D _ _ hD hK rfl rfl)) (fun k h1 h2 => by omega)⟩
  case stop =>
    rintro D c pre W _ _ h _
    exact h.elim

end Go.Proofs.YtlmjogfjhngcoaaDoor
