/- Handles that were given: none twice. (Plain.) -/
import Derived.Test.YtincfbgegoefgaaDoorObjN
namespace Go.Proofs.YtincfbgegoefgaaDoor
open Go.RowKit

/-- Handles G were given; V: which of them stand for something. -/
structure Fresh (l : List Row) (G : List Nat) (V : List Bool) (i : Nat) : Prop where
  len : V.length = G.length ∧ G.length ≤ i ∧ l.length ≤ 64 ∧ i ≤ 1000
  pl : Placed l
  tk : Taken l i
  given : ∀ x ∈ G, ∃ (p t : Nat) (r : Row), x = p + 1 + 64 * t ∧ l[p]? = some r ∧ t < r.times
  mem : ∀ r ∈ l, r.handle ≠ 0 → r.handle ∈ G
  live : ∀ (j x : Nat), G[j]? = some x → V[j]? = some (rowOf l x).isSome
  nd : G.Nodup
theorem rowOf_set_ne {l : List Row} {p : Nat} {r : Row} {x : Nat} (h0 : x ≠ 0) (hx : (x - 1) % 64 ≠ p) : rowOf (l.set p r) x = rowOf l x := by
  unfold rowOf
  rw [if_neg h0, if_neg h0, List.getElem?_set_ne (Ne.symm hx)]
theorem rowOf_set_eq {l : List Row} {p : Nat} {r : Row} {x : Nat} (hp : p < l.length) (h0 : x ≠ 0) (hx : (x - 1) % 64 = p) : rowOf (l.set p r) x = if r.handle = x then some r else none := by
  unfold rowOf
  rw [if_neg h0, hx, List.getElem?_set_self hp, Option.bind_some]
theorem rowOf_at {l : List Row} {p : Nat} {r : Row} {x : Nat} (hp : l[p]? = some r) (h0 : x ≠ 0) (hx : (x - 1) % 64 = p) : rowOf l x = if r.handle = x then some r else none := by
  unfold rowOf
  rw [if_neg h0, hx, hp, Option.bind_some]
theorem Fresh.ne {l : List Row} {G : List Nat} {V : List Bool} {i x : Nat} (h : Fresh l G V i) (hx : x ∈ G) : x ≠ 0 ∧ x < 18446744073709551616 := by
  obtain ⟨p, t, r, rfl, h1, h2⟩ := h.given x hx
  have h3 := h.tk r (List.mem_of_getElem? h1)
  have h4 := (List.getElem?_eq_some_iff.1 h1).1
  have h5 := h.len
  exact ⟨by omega, by omega⟩
theorem Fresh.start (n : Nat) (hn : n ≤ 64) : Fresh (List.replicate n ⟨0, 0, 0, 0⟩) [] [] 0 :=
  ⟨⟨rfl, Nat.le_refl _, by simpa using hn, by omega⟩, (fun p r hr h0 => by
      obtain rfl := List.eq_of_mem_replicate (List.mem_of_getElem? hr)
      exact absurd rfl h0), (fun r hr => by obtain rfl := List.eq_of_mem_replicate hr; exact Nat.le_refl _), (fun x hx => by cases hx), (fun r hr h0 => by
      obtain rfl := List.eq_of_mem_replicate hr
      exact absurd rfl h0), (fun j x hx => by simp at hx), List.nodup_nil⟩
theorem Fresh.up {l : List Row} {G : List Nat} {V : List Bool} {i : Nat} (h : Fresh l G V i) (hi : i < 1000) : Fresh l G V (i + 1) :=
  ⟨⟨h.len.1, by have := h.len; omega, h.len.2.2.1, by omega⟩, h.pl, fun r hr => Nat.le_succ_of_le (h.tk r hr), h.given, h.mem, h.live, h.nd⟩
/-- A new handle, or no place. -/
theorem Fresh.made {l : List Row} {G : List Nat} {V : List Bool} {i a : Nat} {k : Int} (h : Fresh l G V i) (hi : i < 1000) (hk1 : 1 ≤ k) (hk2 : k ≤ 6) (hl : 0 < l.length) :
    (mkE l k = some (0, 3) ∧ mkL l k a = l ∧ G ≠ []) ∨
    (mkE l k = none ∧ mkH l k ∉ G ∧ mkH l k ≠ 0 ∧ mkH l k < 18446744073709551616 ∧ fdA (mkL l k a) (mkH l k) k = a ∧ fdE (mkL l k a) (mkH l k) k = none ∧ kdI (mkL l k a) (mkH l k) = k ∧
      Fresh (mkL l k a) (G ++ [mkH l k]) (V ++ [true]) (i + 1)) := by
  have hk : ¬ (k < 1 ∨ 6 < k) := by omega
  have hpl' := Placed.mk h.pl h.tk (by omega) h.len.2.2.1 k a
  have htk' := Taken.mk h.tk k a
  rcases free_cases l with ⟨h1, h2⟩ | ⟨p, r, h1, h2, h3, _⟩
  · refine .inl ⟨by unfold mkE; rw [if_neg hk, h1], by unfold mkL; rw [if_neg hk, h1], fun e => ?_⟩
    have := h.mem l[0] (List.getElem_mem hl) (h2 _ (List.getElem_mem hl))
    rw [e] at this; cases this
  · have eH : mkH l k = p + 1 + 64 * r.times := by unfold mkH; rw [if_neg hk, h1]; simp only [h2, Option.elim_some]
    have eL : mkL l k a = l.set p ⟨r.times + 1, p + 1 + 64 * r.times, k, a⟩ := by unfold mkL; rw [if_neg hk, h1]; simp only [h2, Option.elim_some]
    have hpl := (List.getElem?_eq_some_iff.1 h2).1
    have htr := h.tk r (List.mem_of_getElem? h2)
    have hln := h.len
    rw [eL] at hpl' htk' ⊢
    rw [eH]
    have hpm : (p + 1 + 64 * r.times - 1) % 64 = p := by omega
    have hnG : p + 1 + 64 * r.times ∉ G := fun hx => by
      obtain ⟨p', t, r', e1, e2, e3⟩ := h.given _ hx
      have := (List.getElem?_eq_some_iff.1 e2).1
      have e4 : p' = p := by omega
      subst e4
      rw [h2] at e2
      obtain rfl := Option.some.inj e2
      omega
    have hro := rowOf_set_eq (r := ⟨r.times + 1, p + 1 + 64 * r.times, k, a⟩) hpl (x := p + 1 + 64 * r.times) (by omega) hpm
    rw [if_pos rfl] at hro
    refine .inr ⟨by unfold mkE; rw [if_neg hk, h1], hnG, by omega, by omega, ?_, ?_, ?_, ⟨⟨by simp [hln.1], by simp; omega, by simpa using hln.2.2.1, by omega⟩, hpl', htk', ?_, ?_, ?_, ?_⟩⟩
    · unfold fdA; rw [hro]; simp
    · unfold fdE; rw [hro]; simp
    · unfold kdI; rw [hro]
    · intro x hx
      rcases List.mem_append.1 hx with hx | hx
      · obtain ⟨p', t, r', e1, e2, e3⟩ := h.given x hx
        by_cases e : p = p'
        · subst e
          rw [h2] at e2
          obtain rfl := Option.some.inj e2
          exact ⟨p, t, _, e1, by rw [List.getElem?_set_self hpl], by show t < r.times + 1; omega⟩
        · exact ⟨p', t, r', e1, by rw [List.getElem?_set_ne e]; exact e2, e3⟩
      · obtain rfl : x = p + 1 + 64 * r.times := by simpa using hx
        exact ⟨p, r.times, _, rfl, by rw [List.getElem?_set_self hpl], by show r.times < r.times + 1; omega⟩
    · intro x hx h0
      rcases List.mem_or_eq_of_mem_set hx with hx | rfl
      · exact List.mem_append_left _ (h.mem x hx h0)
      · exact List.mem_append_right _ (by simp)
    · intro j x hx
      by_cases hj : j < G.length
      · rw [List.getElem?_append_left hj] at hx
        rw [List.getElem?_append_left (by omega), h.live j x hx]
        have hxG := List.mem_of_getElem? hx
        have hx0 := (h.ne hxG).1
        by_cases e : (x - 1) % 64 = p
        · have hne : p + 1 + 64 * r.times ≠ x := fun e => hnG (e ▸ hxG)
          rw [rowOf_set_eq hpl hx0 e, if_neg hne, rowOf_at h2 hx0 e, if_neg (by omega)]
        · rw [rowOf_set_ne hx0 e]
      · have hj2 : j = G.length := by
          have := (List.getElem?_eq_some_iff.1 hx).1; simp at this; omega
        subst hj2
        rw [List.getElem?_append_right (Nat.le_refl _)] at hx
        simp at hx
        subst hx
        rw [hro, List.getElem?_append_right (by omega), hln.1]; simp
    · exact List.nodup_append.2 ⟨h.nd, by simp, fun a ha b hb e => by simp at hb; subst hb; exact hnG (e ▸ ha)⟩
/-- A handle that goes. -/
theorem Fresh.gn {l : List Row} {G : List Nat} {V : List Bool} {i q u : Nat} {y : Bool} (h : Fresh l G V i) (hu : G[q]? = some u) (hy : V[q]? = some y) :
    gnE l u = (if y then none else some (0, 7)) ∧ fdE (gnL l u) u 1 = some (0, 7) ∧ kdI (gnL l u) u = 0 ∧ Fresh (gnL l u) G (V.set q false) i := by
  have huG := List.mem_of_getElem? hu
  have hu0 := (h.ne huG).1
  have hlv := h.live q u hu
  rw [hy] at hlv
  have hlv' : y = (rowOf l u).isSome := Option.some.inj hlv
  have hpl' := Placed.gn h.pl u
  have htk' := Taken.gn h.tk u
  have hln := h.len
  have hql := (List.getElem?_eq_some_iff.1 hy).1
  cases e : rowOf l u with
  | none =>
    have eL : gnL l u = l := by unfold gnL; rw [e]
    rw [e] at hlv'
    have hyf : y = false := hlv'
    subst hyf
    rw [eL]
    refine ⟨by unfold gnE; rw [e]; rfl, by unfold fdE; rw [e], by unfold kdI; rw [e], ⟨by simpa using hln, h.pl, h.tk, h.given, h.mem, fun j x hx => ?_, h.nd⟩⟩
    by_cases ej : q = j
    · subst ej; rw [hu] at hx; obtain rfl := Option.some.inj hx; rw [List.getElem?_set_self hql, e]; rfl
    · rw [List.getElem?_set_ne ej]; exact h.live j x hx
  | some r =>
    obtain ⟨h', rfl, h2, h3⟩ := rowOf_some e
    have hpl := (List.getElem?_eq_some_iff.1 h2).1
    have eL : gnL l (h' + 1) = l.set (h' % 64) ⟨r.times, 0, 0, 0⟩ := by unfold gnL; rw [e]; rfl
    rw [eL] at hpl' htk' ⊢
    have hro : rowOf (l.set (h' % 64) ⟨r.times, 0, 0, 0⟩) (h' + 1) = none := by
      rw [rowOf_set_eq hpl (by omega) rfl, if_neg (by simp)]
    rw [e] at hlv'
    have hyt : y = true := hlv'
    subst hyt
    refine ⟨by unfold gnE; rw [e]; rfl, by unfold fdE; rw [hro], by unfold kdI; rw [hro], ⟨by simpa using hln, hpl', htk', ?_, ?_, ?_, h.nd⟩⟩
    · intro x hx
      obtain ⟨p', t, r', e1, e2, e3⟩ := h.given x hx
      by_cases e : h' % 64 = p'
      · subst e
        rw [h2] at e2
        obtain rfl := Option.some.inj e2
        exact ⟨_, t, ⟨r.times, 0, 0, 0⟩, e1, by rw [List.getElem?_set_self hpl], e3⟩
      · exact ⟨p', t, r', e1, by rw [List.getElem?_set_ne e]; exact e2, e3⟩
    · intro x hx h0
      rcases List.mem_or_eq_of_mem_set hx with hx | rfl
      · exact h.mem x hx h0
      · exact absurd rfl h0
    · intro j x hx
      by_cases ej : q = j
      · subst ej; rw [hu] at hx; obtain rfl := Option.some.inj hx; rw [List.getElem?_set_self hql, hro]; rfl
      · rw [List.getElem?_set_ne ej, h.live j x hx]
        have hxG := List.mem_of_getElem? hx
        have hx0 := (h.ne hxG).1
        have hxu : x ≠ h' + 1 := fun e => by
          subst e
          have h1 := (List.getElem?_eq_some_iff.1 hx).1
          have h5 := (List.getElem?_eq_some_iff.1 hu).1
          exact ej ((List.getElem?_inj h5 h.nd).1 (by rw [hu, hx]))
        by_cases em : (x - 1) % 64 = h' % 64
        · rw [rowOf_set_eq hpl hx0 em, if_neg (by simpa using Ne.symm hx0), rowOf_at h2 hx0 em, if_neg (by omega)]
        · rw [rowOf_set_ne hx0 em]

end Go.Proofs.YtincfbgegoefgaaDoor
