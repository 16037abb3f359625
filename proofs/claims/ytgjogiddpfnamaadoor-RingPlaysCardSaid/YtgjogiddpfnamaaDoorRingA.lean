/- A ring: its cells, and what lies in it; making, putting in, taking out. -/
import Derived.Test.YtgjogiddpfnamaaDoorSays
import Derived.BigQuiet
import Derived.Deep.QuietTactic
import Derived.Lib.Hide
import Derived.IntWalk
namespace Go.Proofs.YtgjogiddpfnamaaDoor
open Go.RowKit

abbrev ringS : ByteArray := ⟨#[114, 105, 110, 103]⟩

/-- What lies in a ring of these cells, n of them from a place on. -/
def ringL (cs : List Nat) (from_ n : Nat) : List Nat := (List.range n).map fun i => cs.getD ((from_ + i) % cs.length) 0
/-- Block b is the ring, lb its cells. -/
structure RingRep (w : World) (b lb : Nat) (cs : List Nat) (from_ n : Nat) : Prop where
  ne : b ≠ lb
  hd : Arr w b [.slice (some ⟨lb, 0, none⟩) cs.length cs.length, .int .i64 from_, .int .i64 n]
  cells : Arr w lb (cs.map fun x : Nat => .int .u64 x)
  pos : from_ < cs.length
  len : n ≤ cs.length ∧ cs.length ≤ 4096
  fits : ∀ x ∈ cs, x < 18446744073709551616
theorem RingRep.keep {w w' : World} {b lb : Nat} {cs : List Nat} {f n : Nat} {S : Nat → Prop} (h : RingRep w b lb cs f n) (fr : Fr S w w') (h1 : ¬ S b) (h2 : ¬ S lb) : RingRep w' b lb cs f n :=
  ⟨h.ne, h.hd.keep fr h1, h.cells.keep fr h2, h.pos, h.len, h.fits⟩
theorem at_map {xs : List Nat} {k : IntKind} {i x : Nat} {w : World} {b : Nat} (h : Arr w b (xs.map fun x : Nat => .int k x)) (hx : xs[i]? = some x) : w.cell? ⟨b, i, none⟩ = some (.int k x) :=
  h.cell i _ (by rw [List.getElem?_map, hx]; rfl)
theorem getD_get {ws : List Nat} {i : Nat} (h : i < ws.length) : ws[i]? = some (ws.getD i 0) := by simp [List.getD_eq_getElem?_getD, h]

theorem mod_near {a i c : Nat} (ha : a < c) (hi : i ≤ c) : (a + i) % c = if a + i < c then a + i else a + i - c := by
  split
  · rw [Nat.mod_eq_of_lt (by assumption)]
  · rw [Nat.mod_eq_sub_mod (by omega), Nat.mod_eq_of_lt (by omega)]
theorem ringL_len (cs : List Nat) (f n : Nat) : (ringL cs f n).length = n := by simp [ringL]
theorem ringL_get (cs : List Nat) (f n i : Nat) (h : i < n) : (ringL cs f n)[i]? = some (cs.getD ((f + i) % cs.length) 0) := by simp [ringL, h]
theorem getD_set {l : List Nat} {i j x : Nat} (hi : i < l.length) : (l.set i x).getD j 0 = if i = j then x else l.getD j 0 := by
  rw [List.getD_eq_getElem?_getD, List.getD_eq_getElem?_getD]
  by_cases h : i = j
  · subst h; rw [if_pos rfl, List.getElem?_set_self hi]; rfl
  · rw [if_neg h, List.getElem?_set_ne h]
/-- One more at the end. -/
theorem ringL_put (cs : List Nat) (f n x : Nat) (hf : f < cs.length) (hn : n < cs.length) : ringL (cs.set ((f + n) % cs.length) x) f (n + 1) = ringL cs f n ++ [x] := by
  have hm := mod_near hf (show n ≤ cs.length by omega)
  have hlt : (f + n) % cs.length < cs.length := Nat.mod_lt _ (by omega)
  unfold ringL
  rw [List.range_succ, List.map_append, List.length_set]
  congr 1
  · apply List.map_congr_left
    intro i hi
    have hi' := List.mem_range.1 hi
    have hmi := mod_near hf (show i ≤ cs.length by omega)
    rw [getD_set hlt, if_neg (by rw [hm, hmi]; split <;> split <;> omega)]
  · simp only [List.map_cons, List.map_nil]
    rw [getD_set hlt, if_pos rfl]
theorem ringL_take (cs : List Nat) (f n : Nat) (hf : f < cs.length) (hn : n + 1 ≤ cs.length) : ringL cs f (n + 1) = cs.getD f 0 :: ringL cs ((f + 1) % cs.length) n := by
  unfold ringL
  rw [List.range_succ_eq_map, List.map_cons, List.map_map]
  congr 1
  · simp only [Nat.add_zero]; rw [Nat.mod_eq_of_lt hf]
  · apply List.map_congr_left
    intro i hi
    simp only [Function.comp]
    congr 1
    rw [show f + (i + 1) = (f + 1) + i by omega, Nat.mod_add_mod]

/-- Block eb is this layer's error. -/
def ErrAt (w : World) (eb : Nat) (k : Int) : Prop := w.heap[eb]? = some (.cells #[.string ringS, .int .i64 0, .iface 30 (.int .i64 k)] 59 (0, 0))
theorem ErrAt.says {w : World} {eb : Nat} {k : Int} (h : ErrAt w eb k) (h1 : 1 ≤ k) (h2 : k ≤ 10) : Says w ringS (.iface 57 (.pointer (some ⟨eb, 0, none⟩))) (some (0, k)) :=
  ⟨⟨eb, _, rfl, h, rfl⟩, h1, h2⟩

theorem u64Info : (Tryd.prog.info? 34).map (fun i => (i.zero, i.size, i.bytes)) = some (some (.int .u64 0), 1, 8) := by kernel_rfl

set_option maxRecDepth 100000 in
set_option maxHeartbeats 400000 in
theorem new_bad (n : Int) (w : World) (h : n < 1 ∨ 4096 < n) :
    Calls Tryd.prog 7 #[.int .i64 n] w fun e w' => ∃ eb, e = .returned (.tuple #[.pointer none, .iface 57 (.pointer (some ⟨eb, 0, none⟩))]) ∧ ErrAt w' eb 1 ∧ New w w' := by
  rcases h with h | h
  all_goals
    go_enter Tryd.func7, Tryd.ntmps7
    go_wp2
    go_ret2
    exact ⟨_, rfl, block_alloc_new _ _, (Fr.refl _ _).alloc _⟩

set_option maxRecDepth 100000 in
set_option maxHeartbeats 1000000 in
theorem new_any (n : Nat) (w : World) (h1 : 1 ≤ n) (h2 : n ≤ 4096) :
    Calls Tryd.prog 7 #[.int .i64 n] w fun e w' => ∃ b lb, e = .returned (.tuple #[.pointer (some ⟨b, 0, none⟩), .nilIface]) ∧ w.heap.size ≤ b ∧ w.heap.size ≤ lb ∧
      RingRep w' b lb (List.replicate n 0) 0 0 ∧ New w w' := by
  obtain ⟨i0, hi, hz0, hz1, hz2⟩ := info_parts u64Info
  go_enter Tryd.func7, Tryd.ntmps7
  go_wp2_with (at_make; refine wpList_make_full _ rfl (.tmp 14) (.tmp 14) 49 rfl w.heap.size 34 i0 _ 1 Tryd.underlying49 hi hz0 hz1 .i64 .i64 n n n rfl rfl rfl rfl (by rw [hz2]; omega) (by unfold maxLen; omega) (by omega) ?_; intro w1 hown hgrow)
  go_ret2
  refine ⟨_, _, rfl, hgrow.size, Nat.le_refl _, ?_, ((Fr.refl _ _).grown hgrow (fun _ h => by cases h)).alloc _⟩
  have hlt : w.heap.size < w1.heap.size := (hown.lt _ rfl).2
  have hrow := Arr.of_owns hown
  have e : (madeCells (Value.int IntKind.u64 0).cells (n * 1)).toList = (List.replicate n 0).map fun x : Nat => .int .u64 x := by
    have := madeRows [Value.int IntKind.u64 0] (by simp) n
    rw [show (Value.int IntKind.u64 0).cells = [Value.int IntKind.u64 0].toArray from rfl, show n * 1 = n * [Value.int IntKind.u64 0].length from rfl, this]
    simp [List.flatMap_replicate]
  rw [e] at hrow
  refine ⟨by omega, ?_, hrow.alloc _, by simp; omega, by simp; omega, fun r hr => by rw [(List.mem_replicate.1 hr).2]; decide⟩
  rw [List.length_replicate]
  exact Arr.new _ _ _

set_option maxRecDepth 100000 in
set_option maxHeartbeats 1000000 in
theorem at_any (b lb : Nat) (cs : List Nat) (f n i : Nat) (w : World) (h : RingRep w b lb cs f n) (hi : i ≤ 4096) :
    Calls Tryd.prog 25 #[.pointer (some ⟨b, 0, none⟩), .int .i64 i] w fun e w' => e = .returned (.pointer (some ⟨lb, (f + i) % cs.length, none⟩)) ∧ New w w' := by
  have c0 := h.hd.cell 0 _ rfl
  have c1 := h.hd.cell 1 _ rfl
  have l1 := h.cells.lt
  have hp := h.pos
  have hl := h.len
  obtain ⟨m, hm⟩ : ∃ m, cs.length = m := ⟨_, rfl⟩
  rw [hm] at c0 hp hl ⊢
  obtain ⟨p, hq⟩ : ∃ p, (f + i) % m = p := ⟨_, rfl⟩
  rw [hq]
  have hlt : p < m := by rw [← hq]; exact Nat.mod_lt _ (by omega)
  have hr : ((f : Int) + (i : Int)).tmod (m : Int) = (p : Int) := by rw [Int.tmod_eq_emod_of_nonneg (by omega), ← Int.natCast_add, ← hq]; rfl
  have hz : ((m : Int) == 0) = false := beq_eq_false_iff_ne.2 (by omega)
  have hw1 : IntKind.i64.wrap (p : Int) = (p : Int) := IntWalk.i64_in _ (by omega)
  have h0 : (0 : Int) ≤ (p : Int) := by omega
  have h1 : (p : Int) < (m : Int) := by omega
  have HM := Lib.hid hm
  have HQ := Lib.hid hq
  have hd : IntKind.i64.wrap ((f : Int) + (i : Int)) = (f : Int) + (i : Int) := IntWalk.i64_in _ (by omega)
  clear h hm hq
  go_enter Tryd.func25, Tryd.ntmps25
  go_wp2_with fail
  go_quiet (fail)
  go_wp2
  go_ret
  exact ⟨rfl, (Fr.refl _ _).drewN _⟩

theorem at_z (b lb : Nat) (cs : List Nat) (f n i : Nat) (z : Int) (w : World) (h : RingRep w b lb cs f n) (hz : z = i) (hi : i ≤ 4096) :
    Calls Tryd.prog 25 #[.pointer (some ⟨b, 0, none⟩), .int .i64 z] w fun e w' => e = .returned (.pointer (some ⟨lb, (f + i) % cs.length, none⟩)) ∧ New w w' := by
  subst hz; exact at_any b lb cs f n i w h hi

end Go.Proofs.YtgjogiddpfnamaaDoor
