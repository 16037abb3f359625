/- Telling the handles by their places: the iterator, and how many there are. -/
import Derived.Test.YtincfbgegoefgaaDoorObjB
import Derived.RangeFuncNested
import Derived.RangeFuncBound
import Derived.RangeFuncCalls
import Derived.RangeFuncLeaves
import Derived.RangeFuncFrom
import Derived.Shelf.Abstract
import Derived.Shelf.RegionOpen
import Derived.OwnWalkIn
import Derived.TacticsInMore
import Derived.LoopNIn
import Derived.LoopIn
namespace Go.Proofs.YtincfbgegoefgaaDoor
open Go.RowKit Go.Shelf
attribute [local go_sem] Oper.semAt_some

/-- Blocks of cells stay, but for those of S. -/
def KeepCells (S : Nat → Prop) (w w' : World) : Prop :=
  w.heap.size ≤ w'.heap.size ∧ ∀ k c T f, w.heap[k]? = some (.cells c T f) → ¬ S k → w'.heap[k]? = some (.cells c T f)
theorem KeepCells.trans {S : Nat → Prop} {a b c : World} (h : KeepCells S a b) (k : KeepCells S b c) : KeepCells S a c :=
  ⟨Nat.le_trans h.1 k.1, fun i c T f hi hs => k.2 i c T f (h.2 i c T f hi hs) hs⟩

/-- A place that is taken, as it is told: handle, address. -/
def told (l : List Row) : List (Nat × Nat) := (l.filter fun r => r.handle != 0).map fun r => (r.handle, r.addr)

set_option maxRecDepth 100000 in
set_option maxHeartbeats 400000 in
theorem all_any (b : Nat) (w : World) :
    Calls Tryd.prog 28 #[.pointer (some ⟨b, 0, none⟩)] w fun e w' => e = .returned (.func (.func 37) #[] #[.pointer (some ⟨w.heap.size, 0, none⟩)]) ∧
      w' = w.alloc (.cells #[.pointer (some ⟨b, 0, none⟩)] 22) := by
  go_enter Tryd.func28, Tryd.ntmps28
  go_wp2
  go_ret
  exact ⟨rfl, rfl⟩

theorem told_snoc {l : List Row} {i : Nat} {r : Row} (h : l[i]? = some r) : told (l.take (i + 1)) = told (l.take i) ++ if r.handle = 0 then [] else [(r.handle, r.addr)] := by
  unfold told
  rw [List.take_add_one, h, Option.toList_some, List.filter_append, List.map_append]
  by_cases e : r.handle = 0 <;> simp [e]
theorem told_le (l : List Row) : (told l).length ≤ l.length := by
  unfold told; rw [List.length_map]; exact List.length_filter_le _ _
theorem told_take (l : List Row) (i : Nat) : told (l.take i) <+: told l := by
  unfold told
  conv => rhs; rw [← List.take_append_drop i l]
  rw [List.filter_append, List.map_append]
  exact List.prefix_append _ _

theorem owned_slice {w : World} {base : Nat} {e : TypeId} {size n : Nat} {v : Value} {xs : List Value} (h : w.ownsRow base e size v n xs) (hv : v ≠ .slice none 0 0) :
    ∃ (g cap : Nat) (cur : Array Value), v = .slice (some ⟨g, 0, none⟩) n cap ∧ base ≤ g ∧ w.heap[g]? = some (.cells cur e (0, 0)) ∧ ∀ (j : Nat) (u : Value), xs[j]? = some u → cur[j]? = some u := by
  rcases h.2 with ⟨h1, _⟩ | ⟨g, cap, cur, h1, h2, h3, h4, h5, h6, h7⟩
  · exact absurd h1 hv
  · exact ⟨g, cap, cur, h1, h2, h3, fun j u hj => by
      rw [← h7, List.getElem?_take] at hj
      split at hj
      · rwa [Array.getElem?_toList] at hj
      · cases hj⟩

set_option maxRecDepth 100000 in
set_option maxHeartbeats 1000000 in
theorem all1_in (F : Fence) (n : Nat) (hF : F.fn 37) (hro : F.round = none) (hn : 1 ≤ n) (l Bn b rb : Nat) (rs : List Row) (S : Nat → Prop) (J Jx : List (Nat × Nat) → World → Prop)
    (hY : ∀ pre x W, J pre W → pre.length < rs.length → YieldAt F (n - 1) Tryd.prog l #[.int .u64 x.1, .int .u64 x.2] W fun e W' =>
      (e = .returned (.bool true) ∧ J (pre ++ [x]) W' ∧ KeepCells S W W') ∨ (e = .returned (.bool false) ∧ Jx (pre ++ [x]) W'))
    (W : World) (hA : AbidesFrom W.heap.size J) (hS : ∀ k, S k → k < W.heap.size) (hBn : W.cell? ⟨Bn, 0, none⟩ = some (.pointer (some ⟨b, 0, none⟩))) (hL : ObjRep W b rb rs) (h0 : J [] W) :
    CallsIn F n Tryd.prog 37 #[.func (.yield l) #[] #[], .pointer (some ⟨Bn, 0, none⟩)] W fun e W' => (∃ v, e = .returned v) ∧
      ((∃ ys, ys = told rs ∧ J ys W') ∨ (∃ pre, pre <+: told rs ∧ Jx pre W')) := by
  have hc := hL.hd.cell 0 _ rfl
  have hn := hL.len
  have l1 := lt_of_cell hBn
  have l2 := hL.hd.lt
  have l3 := hL.rows.lt
  have hrows : ∀ j u, (rs.flatMap Row.cells)[j]? = some u → (W.alloc (.cells #[] 79)).cell? ((⟨rb, 0, none⟩ : Addr).add j) = some u := by
    intro j u hj
    have := (hL.rows.alloc (.cells #[] 79)).cell j u hj
    unfold Addr.add; split <;> simp_all
  have hlen : (rs.flatMap Row.cells).length = rs.length * 4 := len_flatMap Row.cells 4 Row.len rs
  have hone : ∀ u ∈ rs.flatMap Row.cells, u.oneCell' = true := by
    intro u hu
    obtain ⟨r, _, hr⟩ := List.mem_flatMap.1 hu
    simp [Row.cells] at hr
    rcases hr with rfl | rfl | rfl | rfl <;> rfl
  obtain ⟨i0, hi, hz0, hz1, hz2⟩ := info_parts rowInfo
  have hown := World.ownsRow_lit (base := W.heap.size) (e := 79) (size := 4) W #[] 0 (Nat.le_refl _) (Nat.zero_le _) rfl
  have HL := Lib.hid hlen
  have HY := Lib.hid hY
  have HR := Lib.hid hrows
  clear hlen hY hrows
  refine callsIn_of_wp Tryd.func37 rfl hF ?_ hro
  simp only [Tryd.ntmps37, List.size_toArray, List.length_cons, List.length_nil, Nat.reduceAdd, Nat.reduceSub, Array.replicate_succ, Array.replicate_zero, List.push_toArray, List.append_toArray, List.nil_append, List.cons_append]
  gi_wp2_with (gi_at_builtin; refine wpListIn_append_own _ rfl (.tmp 5) (.tmp 9) 65 rfl W.heap.size 79 i0 _ 4 32 Tryd.underlying65 hi hz0 hz1 hz2 rfl (by decide) _ _ _ rfl hown ⟨rb, 0, none⟩ rs.length rs.length (rs.flatMap Row.cells) rfl HL.out HR.out hone (by unfold maxLen; omega) (by omega) (by simp) ?_; intro v' w1 hown' hgrow hnil; obtain ⟨g, cap, cur, rfl, hg1, hg2, hg3⟩ := owned_slice hown' (fun e => by have := (hnil.1 e).1; cases this); clear hnil hown')
  have hgr : W.grownBy w1 none := ⟨hgrow.os, hgrow.tape, hgrow.output, Nat.le_trans (by simp) hgrow.size, fun k hk _ => by
    rw [hgrow.block k (by simp; omega) (by intro e; have e' : k = W.heap.size := by injection e
                                           omega)]; exact Below.heap_alloc _ _ _ hk⟩
  have hJ1 := hA [] W w1 none h0 hgr (fun r e => by cases e)
  clear hgrow hown
  rw [List.nil_append] at hg3
  gi_loopw [12] (fun i wr => ∃ q : Nat, q ≤ rs.length ∧ i = .int .i64 q ∧ wr.heap[g]? = some (.cells cur 79 (0, 0)) ∧ J (told (rs.take q)) wr) (fun i _ => rs.length - (intOf i).toNat)
  case atStart => exact ⟨0, by omega, rfl, hg2, hJ1⟩
  case round =>
  obtain ⟨q, hq, rfl, hgq, hJq⟩ := hrel
  by_cases hlt : q < rs.length
  · obtain ⟨r, hr⟩ : ∃ r, rs[q]? = some r := ⟨rs[q]'(by omega), by simp⟩
    have c0 : wr.cell? ⟨g, q * 4, none⟩ = some (.int .u64 r.times) := by
      rw [cell_of_block hgq]; exact hg3 _ _ (by have := get_flatMap Row.cells 4 Row.len rs q 0 (by omega); rw [Nat.add_zero] at this; rw [this, hr]; rfl)
    have c1 : wr.cell? ⟨g, q * 4 + 1, none⟩ = some (.int .u64 r.handle) := by
      rw [cell_of_block hgq]; exact hg3 _ _ (by have := get_flatMap Row.cells 4 Row.len rs q 1 (by omega); rw [this, hr]; rfl)
    have c2 : wr.cell? ⟨g, q * 4 + 2, none⟩ = some (.int .i64 r.kind) := by
      rw [cell_of_block hgq]; exact hg3 _ _ (by have := get_flatMap Row.cells 4 Row.len rs q 2 (by omega); rw [this, hr]; rfl)
    have c3 : wr.cell? ⟨g, q * 4 + 3, none⟩ = some (.int .u64 r.addr) := by
      rw [cell_of_block hgq]; exact hg3 _ _ (by have := get_flatMap Row.cells 4 Row.len rs q 3 (by omega); rw [this, hr]; rfl)
    have hs := told_snoc hr
    have HS := Lib.hid hs
    clear hs hr
    by_cases h0 : r.handle = 0
    · have hb : ((r.handle : Int) != 0) = false := by simp [h0]
      have hJ' := hA _ _ (wr.alloc (.cells #[.int .u64 r.times, .int .u64 r.handle, .int .i64 r.kind, .int .u64 r.addr] 79)) none hJq (World.grownBy_alloc _ _ _) (fun r e => by cases e)
      have hg' : (wr.alloc (.cells #[.int .u64 r.times, .int .u64 r.handle, .int .i64 r.kind, .int .u64 r.addr] 79)).heap[g]? = some (.cells cur 79 (0, 0)) := by
        rw [block_alloc (lt_of_block hgq)]; exact hgq
      have HG := Lib.hid hg'
      have HJ := Lib.hid hJ'
      have H0 := Lib.hid h0
      clear h0 hg' hJ'
      gi_wp2
      refine ⟨fun _ h => (by cases h), ?_⟩
      gi_wp2
      go_roundw
      case rel => exact ⟨q + 1, by omega, by go_num, HG.out, by rw [HS.out, if_pos H0.out, List.append_nil]; exact HJ.out⟩
      case measure => simp [intOf]; omega
    · have hb : ((r.handle : Int) != 0) = true := by simp [h0]
      have hJ' := hA _ _ (wr.alloc (.cells #[.int .u64 r.times, .int .u64 r.handle, .int .i64 r.kind, .int .u64 r.addr] 79)) none hJq (World.grownBy_alloc _ _ _) (fun r e => by cases e)
      have hg' : (wr.alloc (.cells #[.int .u64 r.times, .int .u64 r.handle, .int .i64 r.kind, .int .u64 r.addr] 79)).heap[g]? = some (.cells cur 79 (0, 0)) := by
        rw [block_alloc (lt_of_block hgq)]; exact hgq
      obtain ⟨fn, tmps, assign, body, hy, hR⟩ := HY.out _ (r.handle, r.addr) _ hJ' (by
        have := told_le (rs.take q); rw [List.length_take] at this; omega)
      dsimp only at hy
      have HG := Lib.hid hg'
      have H0 := Lib.hid h0
      clear h0 hg' hJ'
      gi_wp2
      refine hR.mono ?_
      rintro e W3 (⟨rfl, hJ3, hk3⟩ | ⟨rfl, hJx3⟩)
      · have HG3 := Lib.hid (hk3.2 g cur 79 (0, 0) HG.out (fun h => by have := hS g h; omega))
        gi_wp2
        go_roundw
        case rel => exact ⟨q + 1, by omega, by go_num, HG3.out, by rw [HS.out, if_neg H0.out]; exact hJ3⟩
        case measure => simp [intOf]; omega
      · gi_wp2
        refine bodyPost_ret (results_none rfl _ _ _) rfl ?_
        exact ⟨⟨_, rfl⟩, .inr ⟨_, (by have := HS.out; rw [if_neg H0.out] at this; rw [← this]; exact told_take _ _), hJx3⟩⟩
  · gi_wp2
    go_end0
    exact ⟨⟨_, rfl⟩, .inl ⟨_, rfl, by rw [List.take_of_length_le (by omega)] at hJq; exact hJq⟩⟩

end Go.Proofs.YtincfbgegoefgaaDoor
