/- Ids that were given: none twice. (Plain.) -/
import Derived.Test.YtpfkfajgbaakoaaDoorTabP
namespace Go.Proofs.YtpfkfajgbaakoaaDoor
open Go.RowKit

structure FreshT (l : List TR) (G : List Nat) (i : Nat) : Prop where
  len : l.length ≤ 64 ∧ G.length ≤ i ∧ i ≤ 1000
  pl : Placed l
  tk : Times l i
  given : ∀ x ∈ G, ∃ (p t : Nat) (r : TR), x = p + 64 * t ∧ l[p]? = some r ∧ 1 ≤ t ∧ t ≤ r.times
  mem : ∀ r ∈ l, r.taken = true → r.id ∈ G
theorem FreshT.lt {l : List TR} {G : List Nat} {i x : Nat} (h : FreshT l G i) (hx : x ∈ G) : x < 18446744073709551616 := by
  obtain ⟨p, t, r, rfl, h1, h2, h3⟩ := h.given x hx
  have h4 := h.tk r (List.mem_of_getElem? h1)
  have h5 := (List.getElem?_eq_some_iff.1 h1).1
  have h6 := h.len
  omega
theorem FreshT.start (n : Nat) (hn : n ≤ 64) : FreshT (List.replicate n noneR) [] 0 :=
  ⟨⟨by simpa using hn, Nat.le_refl _, by omega⟩, (fun p r hr => by
      obtain rfl := List.eq_of_mem_replicate (List.mem_of_getElem? hr)
      exact ⟨fun h => (by cases h), fun _ => rfl⟩), (fun r hr => by obtain rfl := List.eq_of_mem_replicate hr; exact Nat.le_refl _), (fun x hx => by cases hx), (fun r hr h0 => by
      obtain rfl := List.eq_of_mem_replicate hr
      cases h0)⟩
theorem FreshT.up {l : List TR} {G : List Nat} {i : Nat} (h : FreshT l G i) (hi : i < 1000) : FreshT l G (i + 1) :=
  ⟨⟨h.len.1, by have := h.len; omega, by omega⟩, h.pl, h.tk.up, h.given, h.mem⟩
theorem FreshT.on {l : List TR} {G : List Nat} {i : Nat} (h : FreshT l G i) (u : Nat) {f : TR → TR} (hf : Mild f) : FreshT (onL l u f) G i := by
  refine ⟨⟨by rw [on_len]; exact h.len.1, h.len.2⟩, h.pl.on u hf, h.tk.on u hf, fun x hx => ?_, fun r hr ht => ?_⟩
  · obtain ⟨p, t, r, e, h1, h2, h3⟩ := h.given x hx
    unfold onL
    cases er : rowAt l u with
    | none => exact ⟨p, t, r, e, h1, h2, h3⟩
    | some y =>
      obtain ⟨k1, _, _⟩ := rowAt_some er
      by_cases hp : u % 64 = p
      · subst hp
        rw [k1] at h1
        obtain rfl := Option.some.inj h1
        exact ⟨_, t, f y, e, by show (l.set (u % 64) (f y))[u % 64]? = _; rw [List.getElem?_set_self (List.getElem?_eq_some_iff.1 k1).1], h2, by rw [(hf y).1]; exact h3⟩
      · exact ⟨p, t, r, e, by show (l.set (u % 64) (f y))[p]? = _; rw [List.getElem?_set_ne hp]; exact h1, h2, h3⟩
  · unfold onL at hr
    cases er : rowAt l u with
    | none => rw [er] at hr; exact h.mem r hr ht
    | some y =>
      obtain ⟨k1, _, _⟩ := rowAt_some er
      rw [er] at hr
      rcases List.mem_or_eq_of_mem_set hr with hr | rfl
      · exact h.mem r hr ht
      · rcases (hf y).2 with ⟨m1, m2⟩ | ⟨m1, _⟩
        · rw [m2]; exact h.mem y (List.mem_of_getElem? k1) (by rw [← m1]; exact ht)
        · rw [m1] at ht; cases ht
theorem FreshT.born {l : List TR} {G : List Nat} {i : Nat} (h : FreshT l G i) (hi : i < 1000) (hl : 0 < l.length) (home : Nat) :
    (bornE l = some (0, 3) ∧ bornL l home = l ∧ G ≠ []) ∨ (bornE l = none ∧ bornI l ∉ G ∧ bornI l ≠ 0 ∧ bornI l < 18446744073709551616 ∧ FreshT (bornL l home) (G ++ [bornI l]) (i + 1)) := by
  have hpl' := h.pl.born h.tk (by omega) home
  have htk' := h.tk.born home
  have hln := h.len
  rcases free_cases l with ⟨h1, h2⟩ | ⟨p, r, h1, h2, h3, _⟩
  · refine .inl ⟨by unfold bornE; rw [h1], by unfold bornL; rw [h1], fun e => ?_⟩
    have := h.mem l[0] (List.getElem_mem hl) (h2 _ (List.getElem_mem hl))
    rw [e] at this; cases this
  · have eI : bornI l = p + 64 * (r.times + 1) := by unfold bornI; simp only [h1, h2, Option.elim_some]
    have eL : bornL l home = l.set p (bornR r p home) := by unfold bornL; simp only [h1, h2, Option.getD_some]
    have hp := (List.getElem?_eq_some_iff.1 h2).1
    have htr := h.tk r (List.mem_of_getElem? h2)
    rw [eL] at hpl' htk' ⊢
    rw [eI]
    have hnG : p + 64 * (r.times + 1) ∉ G := fun hx => by
      obtain ⟨p', t, r', e1, e2, e3, e4⟩ := h.given _ hx
      have := (List.getElem?_eq_some_iff.1 e2).1
      have e5 : p' = p := by omega
      subst e5
      rw [h2] at e2
      obtain rfl := Option.some.inj e2
      omega
    refine .inr ⟨by unfold bornE; rw [h1], hnG, by omega, by omega, ⟨⟨by simpa using hln.1, by simp; omega, by omega⟩, hpl', htk', ?_, ?_⟩⟩
    · intro x hx
      rcases List.mem_append.1 hx with hx | hx
      · obtain ⟨p', t, r', e1, e2, e3, e4⟩ := h.given x hx
        by_cases e : p = p'
        · subst e
          rw [h2] at e2
          obtain rfl := Option.some.inj e2
          exact ⟨p, t, _, e1, by rw [List.getElem?_set_self hp], e3, by show t ≤ r.times + 1; omega⟩
        · exact ⟨p', t, r', e1, by rw [List.getElem?_set_ne e]; exact e2, e3, e4⟩
      · obtain rfl : x = p + 64 * (r.times + 1) := by simpa using hx
        exact ⟨p, r.times + 1, _, rfl, by rw [List.getElem?_set_self hp], by omega, Nat.le_refl _⟩
    · intro x hx h0
      rcases List.mem_or_eq_of_mem_set hx with hx | rfl
      · exact List.mem_append_left _ (h.mem x hx h0)
      · exact List.mem_append_right _ (by simp [bornR])
/-- Those that live have ids that differ. -/
theorem live_ids {l : List TR} (h : Placed l) (hl : l.length ≤ 64) {a b : Nat} {x y : TR} (hab : b < a) (ha : (live l)[a]? = some x) (hb : (live l)[b]? = some y) : x.id ≠ y.id := by
  have hpw : l.Pairwise fun x y => x.taken = true → y.taken = true → x.id ≠ y.id := by
    rw [List.pairwise_iff_getElem]
    intro i j hi hj hij h1 h2 e
    have e1 := ((h i l[i] (by simp [hi])).1 h1).1
    have e2 := ((h j l[j] (by simp [hj])).1 h2).1
    omega
  have hpl : (live l).Pairwise fun x y => x.taken = true → y.taken = true → x.id ≠ y.id := hpw.sublist List.filter_sublist
  rw [List.pairwise_iff_getElem] at hpl
  obtain ⟨la, e1⟩ := List.getElem?_eq_some_iff.1 ha
  obtain ⟨lb, e2⟩ := List.getElem?_eq_some_iff.1 hb
  have t1 : x.taken = true := (List.mem_filter.1 (List.mem_of_getElem? ha)).2
  have t2 : y.taken = true := (List.mem_filter.1 (List.mem_of_getElem? hb)).2
  have := hpl b a lb la hab
  rw [e1, e2] at this
  exact fun e => this t2 t1 e.symm

end Go.Proofs.YtpfkfajgbaakoaaDoor
