/- Lists: what is made, what goes, what is told. -/
import Derived.Test.YtincfbgegoefgaaObjG
namespace Go.Proofs.Ytincfbgegoefgaa
open Go.RowKit Go.Shelf

def rowsAt (i : Nat) : List Row := (List.range 20).map fun j => if j < i then ⟨1, j + 1, 3, j⟩ else ⟨0, 0, 0, 0⟩
theorem rowsAt_zero : rowsAt 0 = List.replicate 20 ⟨0, 0, 0, 0⟩ := rfl
theorem rowsAt_len (i : Nat) : (rowsAt i).length = 20 := by simp [rowsAt]
theorem rowsAt_get (i : Nat) (h : i < 20) : (rowsAt i)[i]? = some ⟨0, 0, 0, 0⟩ := by simp [rowsAt, h]
theorem rowsAt_lt (i q : Nat) (r : Row) (hq : q < i) (h : (rowsAt i)[q]? = some r) : r.handle ≠ 0 := by
  have hl : q < 20 := by have := (List.getElem?_eq_some_iff.1 h).1; rwa [rowsAt_len] at this
  simp [rowsAt, hl, hq] at h
  subst h; simp
theorem rowsAt_succ (i : Nat) : (rowsAt i).set i ⟨0 + 1, i + 1 + 64 * 0, 3, i⟩ = rowsAt (i + 1) := by
  apply List.ext_getElem?
  intro q
  by_cases hq : q < 20
  · by_cases e : i = q
    · subst e; simp [rowsAt, hq]
    · rw [List.getElem?_set_ne e]; simp only [rowsAt, List.getElem?_map, List.getElem?_range hq, Option.map_some]
      by_cases h1 : q < i
      · rw [if_pos h1, if_pos (by omega)]
      · rw [if_neg h1, if_neg (by omega)]
  · rw [List.getElem?_eq_none (by rw [List.length_set, rowsAt_len]; omega), List.getElem?_eq_none (by rw [rowsAt_len]; omega)]

/-- Is place i struck? -/
def gat (gs : List Bool) (i : Nat) : Bool := gs.getD i false
/-- Which places are kept. -/
def keeps (gs : List Bool) (i : Nat) : List Nat := (List.range i).filter fun j => !gat gs j
def wantCells (gs : List Bool) (i : Nat) : List Value := (keeps gs i).map fun j => .int .u64 ((j + 1 : Nat) : Int)
theorem keeps_succ (gs : List Bool) (i : Nat) : keeps gs (i + 1) = keeps gs i ++ if gat gs i then [] else [i] := by
  unfold keeps; rw [List.range_succ, List.filter_append]
  cases h : gat gs i <;> simp [h]
theorem keeps_le (gs : List Bool) (i : Nat) : (keeps gs i).length ≤ i := by
  unfold keeps; have := List.length_filter_le (fun j => !gat gs j) (List.range i); simpa using this
theorem keeps_lt (gs : List Bool) (i j : Nat) (h : j ∈ keeps gs i) : j < i := by
  unfold keeps at h; simpa using (List.mem_filter.1 h).1
theorem wantCells_yes (gs : List Bool) (i : Nat) (h : gat gs i = true) : wantCells gs (i + 1) = wantCells gs i ∧ (keeps gs (i + 1)).length = (keeps gs i).length := by
  unfold wantCells; rw [keeps_succ, if_pos h, List.append_nil]; exact ⟨rfl, rfl⟩
theorem wantCells_no (gs : List Bool) (i : Nat) (h : gat gs i = false) : wantCells gs (i + 1) = wantCells gs i ++ [.int .u64 ((i + 1 : Nat) : Int)] ∧ (keeps gs (i + 1)).length = (keeps gs i).length + 1 := by
  unfold wantCells; rw [keeps_succ, h]; simp

def rowsG (gs : List Bool) (i : Nat) : List Row := (List.range 20).map fun j => if j < i ∧ gat gs j = true then ⟨1, 0, 0, 0⟩ else ⟨1, j + 1, 3, j⟩
theorem rowsG_zero (gs : List Bool) : rowsAt 20 = rowsG gs 0 := by
  unfold rowsAt rowsG
  apply List.map_congr_left
  intro j hj
  rw [if_pos (by simpa using hj), if_neg (by omega)]
theorem rowsG_len (gs : List Bool) (i : Nat) : (rowsG gs i).length = 20 := by simp [rowsG]
theorem rowsG_get (gs : List Bool) (i : Nat) (h : i < 20) : (rowsG gs i)[i % 64]? = some ⟨1, i + 1, 3, i⟩ := by
  rw [Nat.mod_eq_of_lt (by omega)]; simp [rowsG, h]
theorem rowsG_yes (gs : List Bool) (i : Nat) (h : i < 20) (hg : gat gs i = true) : (rowsG gs i).set (i % 64) ⟨1, 0, 0, 0⟩ = rowsG gs (i + 1) := by
  rw [Nat.mod_eq_of_lt (by omega)]
  apply List.ext_getElem?
  intro q
  by_cases hq : q < 20
  · by_cases e : i = q
    · subst e
      rw [List.getElem?_set_self (by rw [rowsG_len]; exact h)]
      simp only [rowsG, List.getElem?_map, List.getElem?_range hq, Option.map_some]
      rw [if_pos ⟨by omega, hg⟩]
    · rw [List.getElem?_set_ne e]; simp only [rowsG, List.getElem?_map, List.getElem?_range hq, Option.map_some]
      congr 1
      by_cases h1 : q < i
      · simp [h1, show q < i + 1 by omega]
      · simp [h1, show ¬ q < i + 1 by omega]
  · rw [List.getElem?_eq_none (by rw [List.length_set, rowsG_len]; omega), List.getElem?_eq_none (by rw [rowsG_len]; omega)]
theorem rowsG_no (gs : List Bool) (i : Nat) (hg : gat gs i = false) : rowsG gs i = rowsG gs (i + 1) := by
  unfold rowsG
  apply List.map_congr_left
  intro j hj
  by_cases e : j = i
  · subst e; simp [hg]
  · by_cases h1 : j < i
    · simp [h1, show j < i + 1 by omega]
    · simp [h1, show ¬ j < i + 1 by omega]
theorem rowsG_end (gs : List Bool) (i : Nat) (h : i = min 20 gs.length) : told (rowsG gs i) = (keeps gs 20).map fun j => (j + 1, j) := by
  have hp : ∀ j, j ∈ List.range 20 → ((j < i ∧ gat gs j = true) ↔ gat gs j = true) := by
    intro j hj
    have : j < 20 := by simpa using hj
    constructor
    · exact fun h => h.2
    · intro hg
      refine ⟨?_, hg⟩
      by_cases hl : j < gs.length
      · omega
      · unfold gat at hg; rw [List.getD_eq_getElem?_getD, List.getElem?_eq_none (by omega)] at hg; simp at hg
  unfold told rowsG keeps
  rw [List.filter_map, List.map_map]
  have e : (List.range 20).filter ((fun r : Row => r.handle != 0) ∘ fun j => if j < i ∧ gat gs j = true then (⟨1, 0, 0, 0⟩ : Row) else ⟨1, j + 1, 3, j⟩) = (List.range 20).filter fun j => !gat gs j := by
    apply List.filter_congr
    intro j hj
    have := hp j hj
    by_cases hg : gat gs j = true
    · rw [Function.comp, if_pos (this.2 hg), hg]; rfl
    · rw [Function.comp, if_neg (fun h => hg (this.1 h))]
      simp [hg]
  rw [e]
  apply List.map_congr_left
  intro j hj
  have hg := (List.mem_filter.1 hj).2
  simp only [Function.comp]
  rw [if_neg (by intro h; rw [h.2] at hg; simp at hg)]

end Go.Proofs.Ytincfbgegoefgaa
