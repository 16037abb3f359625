/- Those of one address; being moved: plain laws. -/
import Derived.Test.YteeckkkbmlkkiaaDoorWaitF
namespace Go.Proofs.YteeckkkbmlkkiaaDoor
open Go.RowKit Go.Maps

/-- Who waits on a, in order. -/
def onA (L : List Sl) (a : Nat) : List Sl := L.filter fun s => s.addr == a
theorem onA_snoc (L : List Sl) (s : Sl) (a : Nat) : onA (L ++ [s]) a = if s.addr = a then onA L a ++ [s] else onA L a := by
  unfold onA
  rw [List.filter_append]
  by_cases e : s.addr = a
  · rw [if_pos e]; simp [e]
  · rw [if_neg e]; simp [e]
theorem onA_without (L : List Sl) (x a : Nat) : onA (without L x) a = without (onA L a) x := by
  unfold onA without
  rw [List.filter_filter, List.filter_filter]
  congr 1; funext s; rw [Bool.and_comm]
theorem onA_mem {L : List Sl} {a : Nat} {s : Sl} : s ∈ onA L a ↔ s ∈ L ∧ s.addr = a := by simp [onA]
theorem anyOf_on (L : List Sl) (a : Nat) : anyOf L a = (onA L a).head? := by
  unfold anyOf onA fitsB
  rw [List.head?_filter]
  congr 1; funext s; simp
theorem meet11 : meetB 1 1 = true := by kernel_rfl
theorem firstOf_on {L : List Sl} {a : Nat} (hm : ∀ s ∈ L, s.mask = 1) : firstOf L a 1 = (onA L a).head? := by
  unfold firstOf onA fitsB
  rw [List.head?_filter]
  induction L with
  | nil => rfl
  | cons s r ih =>
    have hs := hm s (List.mem_cons_self ..)
    have := ih (fun x hx => hm x (List.mem_cons_of_mem _ hx))
    rw [List.find?_cons, List.find?_cons, this, hs, meet11]
    simp
theorem without_head {L : List Sl} (h : Once L) {s : Sl} {r : List Sl} (e : L = s :: r) : without L s.id = r := by
  rw [without_erase h (i := 0) (s := s) (by rw [e]; rfl), e]; rfl
theorem Once.onA {L : List Sl} (h : Once L) (a : Nat) : Once (onA L a) := List.Pairwise.filter _ h
theorem onA_other {L : List Sl} (h : Once L) {s : Sl} (hs : s ∈ L) {a : Nat} (ha : s.addr ≠ a) : without (onA L a) s.id = onA L a := by
  refine without_none ?_
  rw [Bool.eq_false_iff]
  intro hh
  obtain ⟨x, hx, e⟩ := hasId_iff.1 hh
  obtain ⟨h1, h2⟩ := onA_mem.1 hx
  rw [once_eq h h1 hs (.inl e)] at h2
  exact ha h2
/-- The ids of those on 'to', then of those on 'from', as moving leaves them. -/
def wantOf (L : List Sl) (f t : Nat) : List Nat := (onA L t).map Sl.id ++ (onA L f).map Sl.id
theorem move_want {L : List Sl} (h : Once L) {f t : Nat} (hft : f ≠ t) {s : Sl} (hs : anyOf L f = some s) :
    wantOf (without L s.id ++ [{ s with addr := t }]) f t = wantOf L f t ∧ (onA (without L s.id ++ [{ s with addr := t }]) f).length + 1 = (onA L f).length := by
  rw [anyOf_on] at hs
  have hmem := List.mem_of_head? hs
  obtain ⟨hsL, hsa⟩ := onA_mem.1 hmem
  obtain ⟨r, hr⟩ : ∃ r, onA L f = s :: r := by
    cases hx : onA L f with
    | nil => rw [hx] at hs; simp at hs
    | cons a r => rw [hx] at hs; simp at hs; exact ⟨r, by rw [hs]⟩
  have e1 : onA (without L s.id ++ [{ s with addr := t }]) t = onA L t ++ [{ s with addr := t }] := by
    rw [onA_snoc, if_pos rfl, onA_without, onA_other h hsL (by omega)]
  have e2 : onA (without L s.id ++ [{ s with addr := t }]) f = r := by
    rw [onA_snoc, if_neg (fun e => hft (Eq.symm e)), onA_without, without_head (h.onA f) hr]
  unfold wantOf
  rw [e1, e2, hr]
  exact ⟨by simp, by simp⟩
theorem move_masks {L : List Sl} {t : Nat} {s : Sl} (hs : s ∈ L) (hm : ∀ x ∈ L, x.mask = 1) : ∀ x ∈ without L s.id ++ [{ s with addr := t }], x.mask = 1 := by
  intro x hx
  rcases List.mem_append.1 hx with hx | hx
  · exact hm x (List.mem_filter.1 hx).1
  · rw [List.mem_singleton.1 hx]; exact hm s hs
/-- When nobody is left on 'from': who is next on 'to', and what is left. -/
theorem want_at {L : List Sl} {f t k : Nat} {W : List Nat} (hw : wantOf L f t = W.drop k) (hf : onA L f = []) : (onA L t).map Sl.id = W.drop k := by
  unfold wantOf at hw; rw [hf] at hw; simpa using hw
theorem onA_take {L : List Sl} (h : Once L) {t k : Nat} {W : List Nat} (hw : (onA L t).map Sl.id = W.drop k) (hk : k < W.length) :
    ∃ s, (onA L t).head? = some s ∧ s.id = W.getD k 0 ∧ s ∈ L ∧ s.addr = t ∧ (onA (without L s.id) t).map Sl.id = W.drop (k + 1) ∧ (∀ f, onA L f = [] → onA (without L s.id) f = []) := by
  rw [List.drop_eq_getElem_cons hk] at hw
  cases hx : onA L t with
  | nil => rw [hx] at hw; cases hw
  | cons s r =>
    rw [hx] at hw
    simp only [List.map_cons, List.cons.injEq] at hw
    have hm := onA_mem.1 (show s ∈ onA L t by rw [hx]; exact List.mem_cons_self ..)
    refine ⟨s, rfl, ?_, hm.1, hm.2, ?_, fun f hf => ?_⟩
    · rw [hw.1, List.getD_eq_getElem?_getD, List.getElem?_eq_getElem hk]; rfl
    · rw [onA_without, without_head (h.onA t) hx, hw.2]
    · rw [onA_without, hf]; rfl
theorem onA_id {L : List Sl} {t : Nat} {W : List Nat} (hw : (onA L t).map Sl.id = W) {k : Nat} (hk : k < W.length) : ∃ s ∈ L, s.id = W.getD k 0 ∧ s.addr = t := by
  have hm : W.getD k 0 ∈ (onA L t).map Sl.id := by
    rw [hw, List.getD_eq_getElem?_getD, List.getElem?_eq_getElem hk]; exact List.getElem_mem hk
  obtain ⟨s, hs, e⟩ := List.mem_map.1 hm
  obtain ⟨h1, h2⟩ := onA_mem.1 hs
  exact ⟨s, h1, e, h2⟩
/-- The numbers of the places with an address, in order. -/
def wantN (xs : List Nat) (a : Nat) (k : Nat) : List Nat := ((List.range k).filter fun i => xs.getD i 0 % 5 == a).map (· + 1)
theorem wantN_succ (xs : List Nat) (a k : Nat) : wantN xs a (k + 1) = if xs.getD k 0 % 5 = a then wantN xs a k ++ [k + 1] else wantN xs a k := by
  unfold wantN
  rw [List.range_succ, List.filter_append, List.map_append]
  by_cases e : xs.getD k 0 % 5 = a
  · rw [if_pos e]
    rw [List.filter_cons_of_pos (by simpa using e)]; rfl
  · rw [if_neg e]
    rw [List.filter_cons_of_neg (by simpa using e)]; simp
theorem Fil.want {xs ms : List Nat} : ∀ {X : Nat} {L : List Sl}, Fil xs ms X L → ∀ a, (onA L a).map Sl.id = wantN xs a X
  | 0, L, h, a => by
    obtain rfl := List.eq_nil_of_length_eq_zero h.len
    rfl
  | X + 1, L, h, a => by
    have hne : L ≠ [] := fun e => by have := h.len; rw [e] at this; simp at this
    obtain ⟨s, hs⟩ : ∃ s, L.getLast? = some s := ⟨_, List.getLast?_eq_some_getLast hne⟩
    have hL : L.dropLast ++ [s] = L := by
      have := List.dropLast_concat_getLast hne
      rw [List.getLast?_eq_some_getLast hne] at hs
      rw [← Option.some.inj hs]; exact this
    have hlen := h.len
    have hsi : L[X]? = some s := by rw [List.getLast?_eq_getElem?, hlen] at hs; simpa using hs
    obtain ⟨e1, e2, _⟩ := h.at' X s hsi
    have hd : Fil xs ms X L.dropLast := ⟨by simp [hlen], fun i t ht => by
      have hi := (List.getElem?_eq_some_iff.1 ht).1
      refine h.at' i t ?_
      rw [List.getElem?_dropLast] at ht
      split at ht
      · exact ht
      · cases ht⟩
    have ih := hd.want a
    rw [wantN_succ, ← ih]
    conv => lhs; rw [← hL, onA_snoc]
    rw [e2]
    by_cases e : xs.getD X 0 % 5 = a
    · rw [if_pos e, if_pos e, List.map_append, ← e1]; rfl
    · rw [if_neg e, if_neg e]

end Go.Proofs.YteeckkkbmlkkiaaDoor
