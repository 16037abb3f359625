/- A ring's cells moved up: plain laws. -/
import Derived.Test.YtgjogiddpfnamaaDoorRingA
namespace Go.Proofs.YtgjogiddpfnamaaDoor

/-- The cells from place i on move up by one, till place k. -/
def shiftTo (cs : List Nat) (f i : Nat) : Nat → List Nat
  | 0 => cs
  | k + 1 => (shiftTo cs f i k).set ((f + (i + k)) % cs.length) ((shiftTo cs f i k).getD ((f + (i + k + 1)) % cs.length) 0)
theorem shiftTo_len (cs : List Nat) (f i : Nat) : ∀ k, (shiftTo cs f i k).length = cs.length
  | 0 => rfl
  | k + 1 => by show (List.set _ _ _).length = _; rw [List.length_set, shiftTo_len cs f i k]
theorem shiftTo_get (cs : List Nat) (f i : Nat) (hf : f < cs.length) : ∀ (k j : Nat), i + k < cs.length → j < cs.length →
    (shiftTo cs f i k).getD ((f + j) % cs.length) 0 = if i ≤ j ∧ j < i + k then cs.getD ((f + (j + 1)) % cs.length) 0 else cs.getD ((f + j) % cs.length) 0
  | 0, j, _, _ => by rw [if_neg (by omega)]; rfl
  | k + 1, j, hk, hj => by
    have hlt : (f + (i + k)) % cs.length < (shiftTo cs f i k).length := by rw [shiftTo_len]; exact Nat.mod_lt _ (by omega)
    have h1 := mod_near hf (show i + k ≤ cs.length by omega)
    have h2 := mod_near hf (show j ≤ cs.length by omega)
    show ((shiftTo cs f i k).set _ _).getD _ 0 = _
    rw [getD_set hlt]
    by_cases e : j = i + k
    · subst e
      rw [if_pos rfl, if_pos (by omega), shiftTo_get cs f i hf k (i + k + 1) (by omega) (by omega), if_neg (by omega)]
    · rw [if_neg (by rw [h1, h2]; split <;> split <;> omega), shiftTo_get cs f i hf k j (by omega) hj]
      by_cases h3 : i ≤ j ∧ j < i + k
      · rw [if_pos h3, if_pos (by omega)]
      · rw [if_neg h3, if_neg (by omega)]
theorem ringL_drop (cs : List Nat) (f n i : Nat) (hf : f < cs.length) (hn : n ≤ cs.length) (hi : i < n) : ringL (shiftTo cs f i (n - 1 - i)) f (n - 1) = (ringL cs f n).eraseIdx i := by
  apply List.ext_getElem?
  intro j
  rw [List.getElem?_eraseIdx]
  by_cases hj : j < n - 1
  · rw [ringL_get _ _ _ _ hj, shiftTo_len, shiftTo_get cs f i hf (n - 1 - i) j (by omega) (by omega)]
    by_cases h : j < i
    · rw [if_neg (by omega), if_pos h, ringL_get _ _ _ _ (by omega)]
    · rw [if_pos (by omega), if_neg h, ringL_get _ _ _ _ (by omega)]
  · rw [List.getElem?_eq_none (by rw [ringL_len]; omega)]
    split
    · omega
    · rw [List.getElem?_eq_none (by rw [ringL_len]; omega)]

end Go.Proofs.YtgjogiddpfnamaaDoor
