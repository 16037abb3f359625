/- A binary heap: plain laws. -/
import Derived.Test.YtafeopcbfgmjkaaDoorLib
import Derived.Lib.Hide
namespace Go.Proofs.YtafeopcbfgmjkaaDoor

/-- One in a heap: its deadline, what it is, its handle. -/
structure Th where
  d : Nat
  what : Nat
  h : Nat
def noTh : Th := ⟨0, 0, 0⟩
/-- Which comes ahead. -/
def ah (a b : Th) : Prop := a.d < b.d ∨ (a.d = b.d ∧ a.h < b.h)
instance (a b : Th) : Decidable (ah a b) := by unfold ah; infer_instance
/-- A heap, but for place i and its parent, and i and its children. -/
structure Up (f : Nat → Th) (n i : Nat) : Prop where
  far : ∀ j, 0 < j → j < n → j ≠ i → (j - 1) / 2 ≠ i → ¬ ah (f j) (f ((j - 1) / 2))
  near : ∀ j, 0 < i → 0 < j → j < n → (j - 1) / 2 = i → ¬ ah (f j) (f ((i - 1) / 2))
/-- A heap, but for place i and its children. -/
structure Dn (f : Nat → Th) (n i : Nat) : Prop where
  far : ∀ j, 0 < j → j < n → (j - 1) / 2 ≠ i → ¬ ah (f j) (f ((j - 1) / 2))
  near : ∀ j, 0 < i → 0 < j → j < n → (j - 1) / 2 = i → ¬ ah (f j) (f ((i - 1) / 2))
def Ch (f : Nat → Th) (n i : Nat) : Prop := ∀ j, 0 < j → j < n → (j - 1) / 2 = i → ¬ ah (f j) (f i)
def Hp (f : Nat → Th) (n : Nat) : Prop := ∀ j, 0 < j → j < n → ¬ ah (f j) (f ((j - 1) / 2))
/-- Two places changed over. -/
def swp (f : Nat → Th) (i p : Nat) : Nat → Th := fun j => if j = i then f p else if j = p then f i else f j
theorem swp_i (f : Nat → Th) (i p : Nat) : swp f i p i = f p := by simp [swp]
theorem swp_p (f : Nat → Th) (i p : Nat) : swp f i p p = f i := by by_cases e : p = i <;> simp [swp, e]
theorem swp_o (f : Nat → Th) {i p j : Nat} (h1 : j ≠ i) (h2 : j ≠ p) : swp f i p j = f j := by simp [swp, h1, h2]

theorem Up.step {f : Nat → Th} {n i : Nat} (h : Up f n i) (hi : 0 < i) (hn : i < n) (ha : ah (f i) (f ((i - 1) / 2))) : Up (swp f i ((i - 1) / 2)) n ((i - 1) / 2) := by
  obtain ⟨h1, h2⟩ := h
  obtain ⟨p, hp⟩ : ∃ p, (i - 1) / 2 = p := ⟨_, rfl⟩
  rw [hp] at h2 ha ⊢
  refine ⟨fun j j0 jn jp jq => ?_, fun j p0 j0 jn jp => ?_⟩
  · by_cases ji : j = i
    · subst ji; exact absurd hp jq
    rw [swp_o f ji jp]
    by_cases e : (j - 1) / 2 = i
    · rw [e, swp_i]; exact h2 j hi j0 jn e
    · rw [swp_o f e jq]; exact h1 j j0 jn ji e
  · have hpp : (p - 1) / 2 ≠ i ∧ (p - 1) / 2 ≠ p := by omega
    rw [swp_o f hpp.1 hpp.2]
    have k1 := h1 p p0 (by omega) (by omega) hpp.1
    by_cases ji : j = i
    · subst ji; rw [swp_i]; exact k1
    · rw [swp_o f ji (by omega)]
      have k2 := h1 j j0 jn ji (by omega)
      rw [jp] at k2
      unfold ah at *; omega
theorem Up.child {f : Nat → Th} {n i : Nat} (h : Up f n i) (hi : 0 < i) (ha : ah (f i) (f ((i - 1) / 2))) : Ch (swp f i ((i - 1) / 2)) n ((i - 1) / 2) := by
  obtain ⟨h1, h2⟩ := h
  obtain ⟨p, hp⟩ : ∃ p, (i - 1) / 2 = p := ⟨_, rfl⟩
  rw [hp] at h2 ha ⊢
  intro j j0 jn jp
  rw [swp_p]
  by_cases ji : j = i
  · subst ji; rw [swp_i]; unfold ah at *; omega
  · rw [swp_o f ji (by omega)]
    have k2 := h1 j j0 jn ji (by omega)
    rw [jp] at k2
    unfold ah at *; omega
theorem Up.done {f : Nat → Th} {n i : Nat} (h : Up f n i) (hx : 0 < i → ¬ ah (f i) (f ((i - 1) / 2))) : Dn f n i :=
  ⟨fun j j0 jn jp => by
    by_cases ji : j = i
    · subst ji; exact hx j0
    · exact h.far j j0 jn ji jp, h.near⟩
theorem Dn.heap {f : Nat → Th} {n i : Nat} (h : Dn f n i) (hc : Ch f n i) : Hp f n := fun j j0 jn => by
  by_cases e : (j - 1) / 2 = i
  · rw [e]; exact hc j j0 jn e
  · exact h.far j j0 jn e
theorem Hp.dn {f : Nat → Th} {n : Nat} (h : Hp f n) (i : Nat) : Dn f n i :=
  ⟨fun j j0 jn _ => h j j0 jn, fun j i0 j0 jn jp => by
    have k1 := h j j0 jn
    have k2 := h i i0 (by omega)
    rw [jp] at k1
    unfold ah at *; omega⟩
/-- The lesser child k of i changes over with i. -/
theorem Dn.step {f : Nat → Th} {n i k : Nat} (h : Dn f n i) (hk : 0 < k) (hn : k < n) (hp : (k - 1) / 2 = i) (hm : ∀ j, 0 < j → j < n → (j - 1) / 2 = i → ¬ ah (f j) (f k)) (ha : ah (f k) (f i)) : Dn (swp f i k) n k := by
  obtain ⟨h1, h2⟩ := h
  have hik : i < k := by omega
  refine ⟨fun j j0 jn jp => ?_, fun j k0 j0 jn jp => ?_⟩
  · by_cases e : (j - 1) / 2 = i
    · rw [e, swp_i]
      by_cases jk : j = k
      · subst jk; rw [swp_p]; unfold ah at *; omega
      · rw [swp_o f (by omega) jk]; exact hm j j0 jn e
    · have hpar : swp f i k ((j - 1) / 2) = f ((j - 1) / 2) := swp_o f e jp
      rw [hpar]
      by_cases ji : j = i
      · subst ji; rw [swp_i]; exact h2 k j0 hk hn hp
      · rw [swp_o f ji (by omega)]; exact h1 j j0 jn e
  · rw [hp, swp_i, swp_o f (by omega) (by omega)]
    have := h1 j j0 jn (by omega)
    rw [jp] at this; exact this
theorem Hp.least {f : Nat → Th} {n : Nat} (h : Hp f n) : ∀ j, j < n → ¬ ah (f j) (f 0) := by
  intro j
  induction j using Nat.strongRecOn with
  | ind j ih =>
    intro jn
    by_cases e : j = 0
    · subst e; unfold ah; omega
    · have k1 := ih ((j - 1) / 2) (by omega) (by omega)
      have k2 := h j (by omega) jn
      unfold ah at *; omega
/-- The last goes to place i: all but i and its neighbours is a heap still. -/
theorem Hp.put {f : Nat → Th} {n i : Nat} (h : Hp f (n + 1)) (t : Th) : Up (fun j => if j = i then t else f j) n i :=
  ⟨fun j j0 jn ji jp => by simp only [if_neg ji, if_neg jp]; exact h j j0 (by omega),
    fun j i0 j0 jn jp => by
      simp only [if_neg (show j ≠ i by omega), if_neg (show (i - 1) / 2 ≠ i by omega)]
      have k1 := h j j0 (by omega)
      have k2 := h i i0 (by omega)
      rw [jp] at k1
      unfold ah at *; omega⟩

/-- A list as a function. -/
def fn (L : List Th) : Nat → Th := fun j => L.getD j noTh
theorem fn_at {L : List Th} {j : Nat} {t : Th} (h : L[j]? = some t) : fn L j = t := by unfold fn; rw [List.getD_eq_getElem?_getD, h]; rfl
theorem at_fn {L : List Th} {j : Nat} (h : j < L.length) : L[j]? = some (fn L j) := by unfold fn; rw [List.getD_eq_getElem?_getD, List.getElem?_eq_getElem h]; rfl
theorem fn_swap {L : List Th} {i p : Nat} (hi : i < L.length) (hp : p < L.length) : fn ((L.set i (fn L p)).set p (fn L i)) = swp (fn L) i p := by
  funext j
  unfold swp
  by_cases jp : j = p
  · subst jp
    rw [fn_at (t := fn L i) (by rw [List.getElem?_set_self (by simpa using hp)])]
    by_cases e : j = i
    · subst e; simp
    · rw [if_neg e, if_pos rfl]
  · by_cases ji : j = i
    · subst ji
      rw [if_pos rfl]
      exact fn_at (by rw [List.getElem?_set_ne (fun e => jp e.symm), List.getElem?_set_self hi])
    · rw [if_neg ji, if_neg jp]
      unfold fn
      rw [List.getD_eq_getElem?_getD, List.getElem?_set_ne (fun e => jp e.symm), List.getElem?_set_ne (fun e => ji e.symm), ← List.getD_eq_getElem?_getD]
theorem perm_swap {L : List Th} {i p : Nat} (hi : i < L.length) (hp : p < L.length) : ((L.set i (fn L p)).set p (fn L i)).Perm L := by
  have e1 : fn L p = L[p] := by have := at_fn hp; rw [List.getElem?_eq_getElem hp] at this; exact (Option.some.inj this).symm
  have e2 : fn L i = L[i] := by have := at_fn hi; rw [List.getElem?_eq_getElem hi] at this; exact (Option.some.inj this).symm
  rw [e1, e2]
  exact List.set_set_perm hi hp

end Go.Proofs.YtafeopcbfgmjkaaDoor
