/- Who is taken in turn: plain laws. -/
import Derived.Test.YteeckkkbmlkkiaaDoorWaitG
namespace Go.Proofs.YteeckkkbmlkkiaaDoor
open Go.RowKit Go.Maps

/-- Left when those that fit and have ids up to k are gone. -/
def gone (L : List Sl) (P : Sl → Bool) (k : Nat) : List Sl := L.filter fun s => !(P s && decide (s.id ≤ k))
theorem Fil.mem {xs ms : List Nat} {X : Nat} {L : List Sl} (h : Fil xs ms X L) {s : Sl} (hs : s ∈ L) : ∃ i, L[i]? = some s ∧ s.id = i + 1 ∧ i < X := by
  obtain ⟨i, hi⟩ := List.mem_iff_getElem?.1 hs
  exact ⟨i, hi, (h.at' i s hi).1, by rw [← h.len]; exact (List.getElem?_eq_some_iff.1 hi).1⟩
theorem Fil.gone0 {xs ms : List Nat} {X : Nat} {L : List Sl} (h : Fil xs ms X L) {P : Sl → Bool} : gone L P 0 = L := by
  unfold gone
  refine List.filter_eq_self.2 fun s hs => ?_
  obtain ⟨i, _, e, _⟩ := h.mem hs
  rw [decide_eq_false (by omega)]; simp
theorem gone_take {xs ms : List Nat} {X k : Nat} {L : List Sl} (h : Fil xs ms X L) {P : Sl → Bool} {s : Sl} (hs : L[k]? = some s) (hp : P s = true) :
    (gone L P k).find? P = some s ∧ without (gone L P k) s.id = gone L P (k + 1) := by
  have e1 := (h.at' k s hs).1
  unfold gone
  constructor
  · rw [List.find?_filter]
    refine find_at hs (by rw [hp, decide_eq_false (p := s.id ≤ k) (by omega)]; simp) (fun i x hi hx => ?_)
    have e2 := (h.at' i x hx).1
    rw [decide_eq_true (p := x.id ≤ k) (by omega)]
    cases P x <;> simp
  · unfold without
    rw [List.filter_filter]
    refine List.filter_congr fun x hx => ?_
    obtain ⟨i, hi, e2, _⟩ := h.mem hx
    by_cases hik : i = k
    · subst hik
      rw [hs] at hi
      obtain rfl := Option.some.inj hi
      rw [decide_eq_true (p := s.id ≤ i + 1) (by omega), hp]; simp
    · rw [show (x.id != s.id) = true by simp; omega, Bool.true_and]
      congr 2
      rw [decide_eq_decide]; omega
theorem gone_skip {xs ms : List Nat} {X k : Nat} {L : List Sl} (h : Fil xs ms X L) {P : Sl → Bool} {s : Sl} (hs : L[k]? = some s) (hp : P s = false) : gone L P k = gone L P (k + 1) := by
  unfold gone
  refine List.filter_congr fun x hx => ?_
  obtain ⟨i, hi, e2, _⟩ := h.mem hx
  by_cases hik : i = k
  · subst hik
    rw [hs] at hi
    obtain rfl := Option.some.inj hi
    rw [hp]; rfl
  · congr 2
    rw [decide_eq_decide]; omega
theorem gone_none {xs ms : List Nat} {X : Nat} {L : List Sl} (h : Fil xs ms X L) {P : Sl → Bool} : (gone L P X).find? P = none := by
  unfold gone
  refine List.find?_eq_none.2 fun x hx => ?_
  obtain ⟨hx, hp⟩ := List.mem_filter.1 hx
  obtain ⟨i, hi, e2, h3⟩ := h.mem hx
  rw [decide_eq_true (p := x.id ≤ X) (by omega)] at hp
  simpa using hp
theorem gone_all {xs ms : List Nat} {X a m : Nat} {L : List Sl} (h : Fil xs ms X L) (hm : ∀ i, ms.getD i 1 = 1) : firstOf (gone L (fitsB a 1 false) X) a m = none := by
  unfold firstOf
  refine List.find?_eq_none.2 fun x hx => ?_
  have h1 := List.find?_eq_none.1 (gone_none h) x hx
  obtain ⟨hx, _⟩ := List.mem_filter.1 hx
  obtain ⟨i, hi, _⟩ := h.mem hx
  have e3 := (h.at' i x hi).2.2
  rw [hm] at e3
  intro hf
  apply h1
  unfold fitsB at hf ⊢
  rw [Bool.and_eq_true] at hf
  rw [hf.1, e3]; kernel_rfl
theorem Fresh.gone {m qb lb mb : Nat} {L : List Sl} (h : Fresh m qb lb mb L) (P : Sl → Bool) (k' : Nat) : Fresh m qb lb mb (gone L P k') := by
  rintro k (hk | hk | hk | ⟨y, hy, hk⟩)
  · exact h k (.inl hk)
  · exact h k (.inr (.inl hk))
  · exact h k (.inr (.inr (.inl hk)))
  · exact h k (.inr (.inr (.inr ⟨y, (List.mem_filter.1 hy).1, hk⟩)))

end Go.Proofs.YteeckkkbmlkkiaaDoor
