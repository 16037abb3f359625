/- Rows of n cells each: one cell of one row is written over. -/
import Derived.Test.YtlmjogfjhngcoaaDoorLib
namespace Go.Proofs.YtlmjogfjhngcoaaDoor
open Go.RowKit

theorem flatMap_set {α : Type} (f : α → List Value) (n : Nat) (hf : ∀ a, (f a).length = n) : ∀ (l : List α) (q i : Nat) (r r' : α) (v : Value), l[q]? = some r → i < n → f r' = (f r).set i v →
    (l.flatMap f).set (q * n + i) v = (l.set q r').flatMap f
  | [], q, i, r, r', v, h, _, _ => by simp at h
  | x :: l, 0, i, r, r', v, h, hi, e => by
    obtain rfl : x = r := by simpa using h
    simp only [List.flatMap_cons, Nat.zero_mul, Nat.zero_add, List.set_cons_zero]
    rw [List.set_append_left _ _ (by rw [hf]; exact hi), e]
  | x :: l, q + 1, i, r, r', v, h, hi, e => by
    have ih := flatMap_set f n hf l q i r r' v (by simpa using h) hi e
    simp only [List.flatMap_cons, List.set_cons_succ]
    rw [← ih, List.set_append_right _ _ (by rw [hf, Nat.add_mul]; omega), hf, show (q + 1) * n + i - n = q * n + i by rw [Nat.add_mul]; omega]
theorem Arr.setRow {α : Type} {f : α → List Value} {n : Nat} (hf : ∀ a, (f a).length = n) {w : World} {b : Nat} {l : List α} (h : Arr w b (l.flatMap f)) {q i : Nat} {r r' : α} {v : Value} (hq : l[q]? = some r) (hi : i < n)
    (e : f r' = (f r).set i v) : Arr (w.setCell ⟨b, q * n + i, none⟩ v) b ((l.set q r').flatMap f) := by
  rw [← flatMap_set f n hf l q i r r' v hq hi e]
  exact h.set _ _
/-- .. and again, of the same row. -/
theorem Arr.setRow2 {α : Type} {f : α → List Value} {n : Nat} (hf : ∀ a, (f a).length = n) {w : World} {b : Nat} {l : List α} {q i : Nat} {r r' : α} {v : Value} (h : Arr w b ((l.set q r).flatMap f)) (hq : q < l.length) (hi : i < n)
    (e : f r' = (f r).set i v) : Arr (w.setCell ⟨b, q * n + i, none⟩ v) b ((l.set q r').flatMap f) := by
  have := h.setRow hf (q := q) (r := r) (by simp [hq]) hi e
  rwa [List.set_set] at this

end Go.Proofs.YtlmjogfjhngcoaaDoor
