/- Blocks of cells, plainly: where one fits, what is put in and taken out. -/
import Derived.Test.YtlmjogfjhngcoaaDoorMemN
import Derived.Test.YtlmjogfjhngcoaaDoorDocsB
import Derived.Test.YtlmjogfjhngcoaaDoorCopyN
namespace Go.Proofs.YtlmjogfjhngcoaaDoor
open Go.RowKit

structure Bk where
  pos : Int
  num : Int
  wid : Int
def bC (b : Bk) : List Value := [.int .i64 b.pos, .int .i64 b.num, .int .i64 b.wid]
theorem bC_len (b : Bk) : (bC b).length = 3 := rfl
/-- Where the block number i - 1 ends, and where the block number i begins. -/
def endA (F : Int) (l : List Bk) : Nat → Int
  | 0 => F
  | i + 1 => match l[i]? with | some b => b.pos + b.num | none => 0
theorem endA_succ {F : Int} {l : List Bk} {i : Nat} {b : Bk} (h : l[i]? = some b) : endA F l (i + 1) = b.pos + b.num := by
  show (match l[i]? with | some b => b.pos + b.num | none => 0) = _
  rw [h]
def startA (T : Int) (l : List Bk) (i : Nat) : Int := match l[i]? with | some b => b.pos | none => T
def gapA (F T : Int) (l : List Bk) (i : Nat) : Int := startA T l i - endA F l i
/-- The first row that is long enough. -/
def getI (F T : Int) (l : List Bk) (n : Int) : Option Nat := (List.range (l.length + 1)).find? fun i => decide (n ≤ gapA F T l i)
theorem getI_none {F T : Int} {l : List Bk} {n : Int} (h : getI F T l n = none) : ∀ i, i ≤ l.length → gapA F T l i < n := by
  intro i hi
  have := List.find?_eq_none.1 h i (List.mem_range.2 (by omega))
  simpa using this
theorem getI_some {F T : Int} {l : List Bk} {n : Int} {i : Nat} (h : getI F T l n = some i) : i ≤ l.length ∧ n ≤ gapA F T l i ∧ ∀ j, j < i → gapA F T l j < n := by
  obtain ⟨h1, us, bs, h2, h3⟩ := List.find?_eq_some_iff_append.1 h
  have hm : i ∈ List.range (l.length + 1) := by rw [h2]; simp
  have hi := List.mem_range.1 hm
  refine ⟨by omega, by simpa using h1, fun j hj => ?_⟩
  have hlen : us.length = i := by
    have : (List.range (l.length + 1))[us.length]? = some i := by rw [h2, List.getElem?_append_right (Nat.le_refl _)]; simp
    obtain ⟨e1, e2⟩ := List.getElem?_eq_some_iff.1 this
    simpa using e2
  have hja : us[j]? = some j := by
    have : (List.range (l.length + 1))[j]? = some j := by rw [List.getElem?_range (by omega)]
    rw [h2, List.getElem?_append_left (by omega)] at this
    exact this
  have := h3 j (List.mem_of_getElem? hja)
  simpa using this
/-- The blocks lie between F and T, one behind the other. -/
structure Fits (F T : Int) (l : List Bk) : Prop where
  lo : 0 ≤ F ∧ F ≤ T ∧ T ≤ 9223372036854775807
  inn : ∀ b ∈ l, F ≤ b.pos ∧ 1 ≤ b.num ∧ b.pos + b.num ≤ T
  srt : l.Pairwise fun a b => a.pos + a.num ≤ b.pos
theorem Fits.end_ {F T : Int} {l : List Bk} (h : Fits F T l) {i : Nat} (hi : i ≤ l.length) : F ≤ endA F l i ∧ endA F l i ≤ T := by
  cases i with
  | zero => exact ⟨Int.le_refl _, h.lo.2.1⟩
  | succ i =>
    have hx : l[i]? = some l[i] := by simp
    have := h.inn l[i] (List.getElem_mem _)
    rw [endA_succ hx]
    exact ⟨by omega, this.2.2⟩
theorem Fits.start {F T : Int} {l : List Bk} (h : Fits F T l) (i : Nat) : F ≤ startA T l i ∧ startA T l i ≤ T := by
  unfold startA
  cases hx : l[i]? with
  | none => exact ⟨h.lo.2.1, Int.le_refl _⟩
  | some b =>
    have := h.inn b (List.mem_of_getElem? hx)
    exact ⟨this.1, by show b.pos ≤ T; omega⟩
/-- A block put in at place i. -/
def insA (l : List Bk) (i : Nat) (b : Bk) : List Bk := l.take i ++ b :: l.drop i
theorem insA_len (l : List Bk) (i : Nat) (b : Bk) : (insA l i b).length = l.length + 1 := by
  simp [insA]; omega
theorem Fits.ins {F T : Int} {l : List Bk} (h : Fits F T l) {i : Nat} (hi : i ≤ l.length) {n W : Int} (hn : 1 ≤ n) (hg : n ≤ gapA F T l i) : Fits F T (insA l i ⟨endA F l i, n, W⟩) := by
  have he := h.end_ hi
  have hs := h.start i
  unfold gapA at hg
  refine ⟨h.lo, fun b hb => ?_, ?_⟩
  · unfold insA at hb
    rcases List.mem_append.1 hb with hb | hb
    · exact h.inn b (List.mem_of_mem_take hb)
    · rcases List.mem_cons.1 hb with rfl | hb
      · exact ⟨he.1, hn, by show endA F l i + n ≤ T; omega⟩
      · exact h.inn b (List.mem_of_mem_drop hb)
  · have hsp := h.srt
    rw [← List.take_append_drop i l] at hsp
    obtain ⟨h1, h2, h3⟩ := List.pairwise_append.1 hsp
    unfold insA
    refine List.pairwise_append.2 ⟨h1, List.pairwise_cons.2 ⟨fun b hb => ?_, h2⟩, fun a ha b hb => ?_⟩
    · show endA F l i + n ≤ b.pos
      have hstart : startA T l i ≤ b.pos := by
        obtain ⟨j, hj⟩ := List.mem_iff_getElem?.1 hb
        rw [List.getElem?_drop] at hj
        have hjl := (List.getElem?_eq_some_iff.1 hj).1
        have hx : l[i]? = some l[i] := by simp
        unfold startA; rw [hx]
        show l[i].pos ≤ b.pos
        by_cases hj0 : j = 0
        · subst hj0
          rw [Nat.add_zero, hx] at hj
          obtain rfl := Option.some.inj hj
          exact Int.le_refl _
        · obtain ⟨_, e2⟩ := List.getElem?_eq_some_iff.1 hj
          have := List.pairwise_iff_getElem.1 h.srt i (i + j) (by omega) hjl (by omega)
          rw [e2] at this
          have := h.inn l[i] (List.getElem_mem _)
          omega
      omega
    · rcases List.mem_cons.1 hb with rfl | hb
      · show a.pos + a.num ≤ endA F l i
        obtain ⟨j, hj⟩ := List.mem_iff_getElem?.1 ha
        have hji : j < i := by
          have := (List.getElem?_eq_some_iff.1 hj).1
          rw [List.length_take] at this; omega
        rw [List.getElem?_take_of_lt hji] at hj
        cases i with
        | zero => omega
        | succ i =>
          have hx : l[i]? = some l[i] := by simp
          rw [endA_succ hx]
          have hin := h.inn l[i] (List.getElem_mem _)
          by_cases e : j = i
          · subst e
            rw [hx] at hj
            obtain rfl := Option.some.inj hj
            exact Int.le_refl _
          · obtain ⟨hjl, e2⟩ := List.getElem?_eq_some_iff.1 hj
            have := List.pairwise_iff_getElem.1 h.srt j i hjl (by omega) (by omega)
            rw [e2] at this
            omega
      · exact h3 a ha b hb
/-- The place of a block that begins here. -/
def posI (l : List Bk) (p : Int) : Option Nat := l.findIdx? fun b => b.pos == p
theorem posI_none {l : List Bk} {p : Int} (h : posI l p = none) : ∀ b ∈ l, b.pos ≠ p := fun b hb => by
  have := List.findIdx?_eq_none_iff.1 h b hb; simpa using this
theorem posI_some {l : List Bk} {p : Int} {i : Nat} (h : posI l p = some i) : ∃ b, l[i]? = some b ∧ b.pos = p ∧ ∀ j x, j < i → l[j]? = some x → x.pos ≠ p := by
  obtain ⟨h1, h2, h3⟩ := List.findIdx?_eq_some_iff_getElem.1 h
  refine ⟨l[i], by simp, by simpa using h2, fun j x hj hx => ?_⟩
  have := h3 j hj
  obtain ⟨e1, e2⟩ := List.getElem?_eq_some_iff.1 hx
  rw [← e2]; simpa using this
theorem Fits.erase {F T : Int} {l : List Bk} (h : Fits F T l) (i : Nat) : Fits F T (l.eraseIdx i) :=
  ⟨h.lo, fun b hb => h.inn b (List.mem_of_mem_eraseIdx hb), h.srt.sublist (List.eraseIdx_sublist _ _)⟩

structure AllocRep (w : World) (ab mb : Nat) (v : Value) (F T : Int) (l : List Bk) : Prop where
  hd : w.heap[ab]? = some (.cells #[.pointer (some ⟨mb, 0, none⟩), .int .i64 F, .int .i64 T, v] 74 (0, 0))
  own : w.ownsRow 0 43 3 v l.length (l.flatMap bC)
  fit : Fits F T l
  few : l.length ≤ 100000
theorem AllocRep.keep {w w' : World} {ab mb : Nat} {v : Value} {F T : Int} {l : List Bk} {S : Nat → Prop} (h : AllocRep w ab mb v F T l) (f : Fr S w w') (h1 : ¬ S ab) (h2 : ∀ k, v.ownBlock = some k → ¬ S k) : AllocRep w' ab mb v F T l :=
  ⟨by rw [f.block ab (lt_of_block h.hd) h1]; exact h.hd, own_kept h.own f h2, h.fit, h.few⟩
theorem AllocRep.new {w w' : World} {ab mb : Nat} {v : Value} {F T : Int} {l : List Bk} (h : AllocRep w ab mb v F T l) (f : New w w') : AllocRep w' ab mb v F T l := h.keep f id (fun _ _ => id)
theorem AllocRep.ne {w : World} {ab mb : Nat} {v : Value} {F T : Int} {l : List Bk} (h : AllocRep w ab mb v F T l) : ∀ k, v.ownBlock = some k → k ≠ ab := own_ne h.own h.hd (by decide)

/-- A row of room: block g holds L at its head, cap places in all. -/
structure Room (w : World) (g cap : Nat) (L : List Bk) : Prop where
  ex : ∃ cur : Array Value, w.heap[g]? = some (.cells cur 43 (0, 0)) ∧ cur.size = cap * 3 ∧ cur.toList.take (L.length * 3) = L.flatMap bC
  le : L.length ≤ cap ∧ cap ≤ maxLen
theorem Room.own {w : World} {g cap : Nat} {L : List Bk} (h : Room w g cap L) : w.ownsRow 0 43 3 (.slice (some ⟨g, 0, none⟩) L.length cap) L.length (L.flatMap bC) := by
  obtain ⟨cur, h1, h2, h3⟩ := h.ex
  exact ⟨len_flatMap bC 3 bC_len L, .inr ⟨g, cap, cur, rfl, Nat.zero_le _, h1, h.le.1, h.le.2, h2, h3⟩⟩
theorem Room.of {w : World} {base g cap : Nat} {L : List Bk} (h : w.ownsRow base 43 3 (.slice (some ⟨g, 0, none⟩) L.length cap) L.length (L.flatMap bC)) : Room w g cap L := by
  rcases h.2 with ⟨e, _⟩ | ⟨g', cap', cur, hv, _, h1, h2, h3, h4, h5⟩
  · simp at e
  · obtain ⟨rfl, rfl⟩ : g = g' ∧ cap = cap' := by simpa using hv
    exact ⟨⟨cur, h1, h4, h5⟩, h2, h3⟩
theorem Room.set {w : World} {g cap q i : Nat} {L : List Bk} {r r' : Bk} {v : Value} (h : Room w g cap L) (hq : L[q]? = some r) (hi : i < 3) (e : bC r' = (bC r).set i v) : Room (w.setCell ⟨g, q * 3 + i, none⟩ v) g cap (L.set q r') := by
  obtain ⟨cur, h1, h2, h3⟩ := h.ex
  have hl := h.le
  refine ⟨⟨cur.setIfInBounds (q * 3 + i) v, block_setCell h1 _, by simpa using h2, ?_⟩, by simpa using hl⟩
  rw [List.length_set, Array.toList_setIfInBounds, ← flatMap_set bC 3 bC_len L q i r r' v hq hi e, ← h3, List.take_set]
theorem Room.set2 {w : World} {g cap q i : Nat} {L : List Bk} {r r' : Bk} {v : Value} (h : Room w g cap (L.set q r)) (hq : q < L.length) (hi : i < 3) (e : bC r' = (bC r).set i v) : Room (w.setCell ⟨g, q * 3 + i, none⟩ v) g cap (L.set q r') := by
  have := h.set (q := q) (r := r) (by simp [hq]) hi e
  rwa [List.set_set] at this
/-- Behind the copy that moves the cells from place i on up by one. -/
theorem Room.up {w' : World} {g cap i : Nat} {l : List Bk} {z : Bk} (hi : i ≤ l.length) (hcap : l.length + 1 ≤ cap ∧ cap ≤ maxLen) {cur : Array Value} (h2 : cur.size = cap * 3) (h3 : cur.toList.take ((l.length + 1) * 3) = (l ++ [z]).flatMap bC)
    (h : w'.heap[g]? = some (.cells (cur.toList.take ((i + 1) * 3) ++ (l.drop i).flatMap bC ++ cur.toList.drop ((i + 1) * 3 + ((l.drop i).flatMap bC).length)).toArray 43 (0, 0))) : Room w' g cap ((l ++ [z]).take (i + 1) ++ l.drop i) := by
  have hl : ((l.drop i).flatMap bC).length = (l.length - i) * 3 := by rw [len_flatMap bC 3 bC_len]; simp
  have hlen : ((l ++ [z]).take (i + 1) ++ l.drop i).length = l.length + 1 := by simp; omega
  have hs : cur.toList.length = cap * 3 := by simpa using h2
  refine ⟨⟨_, h, ?_, ?_⟩, by rw [hlen]; exact hcap⟩
  · rw [hl]; simp only [List.size_toArray, List.length_append, List.length_take, List.length_drop, hs, hl]; omega
  · rw [hlen]
    have ht : cur.toList.take ((i + 1) * 3) = ((l ++ [z]).take (i + 1)).flatMap bC := by
      rw [← flat_take' bC 3 bC_len, ← h3, List.take_take]; congr 1; omega
    rw [ht, List.flatMap_append]
    have hlt : (((l ++ [z]).take (i + 1)).flatMap bC).length = (i + 1) * 3 := by rw [len_flatMap bC 3 bC_len]; simp; omega
    rw [List.take_append_of_le_length (by rw [List.length_append, hlt, hl]; omega)]
    exact List.take_of_length_le (by rw [List.length_append, hlt, hl]; omega)
theorem up_set {l : List Bk} {z x : Bk} {i : Nat} (hi : i ≤ l.length) : ((l ++ [z]).take (i + 1) ++ l.drop i).set i x = insA l i x := by
  unfold insA
  apply List.ext_getElem?
  intro j
  have hlt : ((l ++ [z]).take (i + 1)).length = i + 1 := by simp; omega
  by_cases e : i = j
  · subst e
    rw [List.getElem?_set_self (by rw [List.length_append, hlt]; omega), List.getElem?_append_right (by simp; omega)]
    simp [show i - min i l.length = 0 by omega]
  · rw [List.getElem?_set_ne e]
    by_cases hj : j < i
    · rw [List.getElem?_append_left (by omega), List.getElem?_append_left (by simp; omega), List.getElem?_take_of_lt (by omega), List.getElem?_take_of_lt hj, List.getElem?_append_left (by omega)]
    · rw [List.getElem?_append_right (by omega), List.getElem?_append_right (by simp; omega), hlt]
      simp only [List.length_take]
      rw [show j - min i l.length = (j - (i + 1)) + 1 by omega, List.getElem?_cons_succ]

end Go.Proofs.YtlmjogfjhngcoaaDoor
