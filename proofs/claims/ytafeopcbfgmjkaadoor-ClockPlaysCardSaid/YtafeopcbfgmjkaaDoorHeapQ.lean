/- A heap's things in order: plain laws. -/
import Derived.Test.YtafeopcbfgmjkaaDoorHeapC
namespace Go.Proofs.YtafeopcbfgmjkaaDoor
open Go.RowKit Go.Maps

/-- Where a new one belongs. -/
def ins (t : Th) : List Th → List Th
  | [] => [t]
  | x :: r => if t.d < x.d then t :: x :: r else x :: ins t r
def woH (S : List Th) (h : Nat) : List Th := S.filter fun x => x.h != h
def Srt (S : List Th) : Prop := S.Pairwise ah
theorem ins_perm (t : Th) : ∀ S, (ins t S).Perm (t :: S)
  | [] => List.Perm.refl _
  | x :: r => by
    unfold ins
    by_cases e : t.d < x.d
    · rw [if_pos e]
    · rw [if_neg e]
      exact ((ins_perm t r).cons x).trans (List.Perm.swap t x r)
theorem ins_mem {t x : Th} {S : List Th} : x ∈ ins t S ↔ x = t ∨ x ∈ S := by
  rw [(ins_perm t S).mem_iff, List.mem_cons]
theorem ins_len (t : Th) (S : List Th) : (ins t S).length = S.length + 1 := by rw [(ins_perm t S).length_eq]; rfl
theorem ins_srt {t : Th} : ∀ {S : List Th}, Srt S → (∀ x ∈ S, x.h < t.h) → Srt (ins t S)
  | [], _, _ => List.pairwise_singleton _ _
  | x :: r, h, hh => by
    obtain ⟨h1, h2⟩ := List.pairwise_cons.1 h
    unfold ins
    by_cases e : t.d < x.d
    · rw [if_pos e]
      refine List.pairwise_cons.2 ⟨fun y hy => ?_, h⟩
      rcases List.mem_cons.1 hy with rfl | hy
      · exact .inl e
      · have := h1 y hy; unfold ah at *; omega
    · rw [if_neg e]
      refine List.pairwise_cons.2 ⟨fun y hy => ?_, ins_srt h2 (fun y hy => hh y (List.mem_cons_of_mem _ hy))⟩
      rcases ins_mem.1 hy with rfl | hy
      · have := hh x (List.mem_cons_self ..); unfold ah; omega
      · exact h1 y hy
theorem srt_hs {S : List Th} (h : ∀ a ∈ S, ∀ b ∈ S, a.h = b.h → a = b) (hs : Srt S) : Hs S := by
  unfold Hs Srt at *
  refine List.Pairwise.imp_of_mem (R := ah) (fun {a b} ha hb hab e => ?_) hs
  have := h a ha b hb e
  subst this
  unfold ah at hab; omega
theorem hs_eq {S : List Th} (h : Hs S) {a b : Th} (ha : a ∈ S) (hb : b ∈ S) (e : a.h = b.h) : a = b := by
  obtain ⟨i, hi⟩ := List.mem_iff_getElem?.1 ha
  obtain ⟨j, hj⟩ := List.mem_iff_getElem?.1 hb
  have := h.eq hi hj e
  subst this
  rw [hi] at hj
  exact Option.some.inj hj
theorem ins_hs {t : Th} {S : List Th} (h : Hs S) (hh : ∀ x ∈ S, x.h < t.h) : Hs (ins t S) :=
  Hs.perm (L := t :: S) (List.pairwise_cons.2 ⟨fun x hx e => by have := hh x hx; omega, h⟩) (ins_perm t S)
theorem woH_srt {S : List Th} (h : Srt S) (x : Nat) : Srt (woH S x) := List.Pairwise.filter _ h
theorem woH_hs {S : List Th} (h : Hs S) (x : Nat) : Hs (woH S x) := List.Pairwise.filter _ h
theorem woH_perm {S : List Th} (h : Hs S) {t : Th} (ht : t ∈ S) : (t :: woH S t.h).Perm S := by
  induction S with
  | nil => simp at ht
  | cons x r ih =>
    obtain ⟨h1, h2⟩ := List.pairwise_cons.1 h
    unfold woH
    rcases List.mem_cons.1 ht with rfl | hr
    · rw [List.filter_cons_of_neg (by simp), List.filter_eq_self.2 (fun y hy => by have := h1 y hy; simpa using (Ne.symm this))]
    · have hne : x.h ≠ t.h := h1 t hr
      rw [List.filter_cons_of_pos (by simpa using hne)]
      exact (List.Perm.swap x t _).trans ((ih h2 hr).cons x)
theorem woH_cons {t : Th} {r : List Th} (h : Hs (t :: r)) : woH (t :: r) t.h = r := by
  obtain ⟨h1, h2⟩ := List.pairwise_cons.1 h
  unfold woH
  rw [List.filter_cons_of_neg (by simp), List.filter_eq_self.2 (fun y hy => by have := h1 y hy; simpa using (Ne.symm this))]

theorem Up.congr {f f' : Nat → Th} {n i : Nat} (h : Up f n i) (hf : ∀ j, j < n → f' j = f j) (hi : i < n) : Up f' n i :=
  ⟨fun j j0 jn ji jp => by rw [hf j jn, hf _ (by omega)]; exact h.far j j0 jn ji jp, fun j i0 j0 jn jp => by rw [hf j jn, hf _ (by omega)]; exact h.near j i0 j0 jn jp⟩
theorem Hp.congr {f f' : Nat → Th} {n : Nat} (h : Hp f n) (hf : ∀ j, j < n → f' j = f j) : Hp f' n := fun j j0 jn => by
  rw [hf j jn, hf _ (by omega)]; exact h j j0 jn
theorem Hp.less {f : Nat → Th} {n m : Nat} (h : Hp f n) (hm : m ≤ n) : Hp f m := fun j j0 jn => h j j0 (by omega)
theorem fn_take {L : List Th} {n j : Nat} (h : j < n) : fn (L.take n) j = fn L j := by
  unfold fn; rw [List.getD_eq_getElem?_getD, List.getD_eq_getElem?_getD, List.getElem?_take_of_lt h]
theorem fn_set {L : List Th} {i j : Nat} {z : Th} (hi : i < L.length) : fn (L.set i z) j = if j = i then z else fn L j := by
  by_cases e : j = i
  · subst e; rw [if_pos rfl]; exact fn_at (getset hi)
  · rw [if_neg e]; unfold fn; rw [List.getD_eq_getElem?_getD, List.getElem?_set_ne (fun x => e x.symm), ← List.getD_eq_getElem?_getD]
/-- One more at the end. -/
theorem snoc_up {L : List Th} (h : Hp (fn L) L.length) (t : Th) : Up (fn (L ++ [t])) (L.length + 1) L.length := by
  have hf : ∀ j, j < L.length → fn (L ++ [t]) j = fn L j := fun j hj => by
    unfold fn; rw [List.getD_eq_getElem?_getD, List.getD_eq_getElem?_getD, List.getElem?_append_left hj]
  exact ⟨fun j j0 jn ji jp => by rw [hf j (by omega), hf _ (by omega)]; exact h j j0 (by omega), fun j i0 j0 jn jp => by omega⟩
theorem snoc_ch (L : List Th) (t : Th) : Ch (fn (L ++ [t])) (L.length + 1) L.length := fun j j0 jn jp => by omega
theorem snoc_pl {M : Int → Option Value} {L : List Th} (h : Pos M L) {t : Th} (ht : ∀ x ∈ L, x.h ≠ t.h) : Pl M (L ++ [t]) L.length L.length := by
  refine ⟨fun j a ha hj => ?_, fun x hx => ?_, fun t' ht' => ?_⟩
  · have hl := (List.getElem?_eq_some_iff.1 ha).1
    simp at hl
    rw [List.getElem?_append_left (by omega)] at ha
    exact h.at' j a ha
  · obtain ⟨a, ha, e⟩ := h.only x hx
    exact ⟨a, List.mem_append_left _ ha, e⟩
  · rw [List.getElem?_append_right (Nat.le_refl _)] at ht'
    obtain rfl : t = t' := by simpa using ht'
    unfold cntUp
    cases hm : (M (t.h : Int)).isSome with
    | true =>
      obtain ⟨a, ha, e⟩ := h.only _ hm
      exact absurd (show a.h = t.h by omega) (ht a ha)
    | false => simp
theorem snoc_hs {L : List Th} (h : Hs L) {t : Th} (ht : ∀ x ∈ L, x.h ≠ t.h) : Hs (L ++ [t]) := by
  unfold Hs
  rw [List.pairwise_append]
  exact ⟨h, List.pairwise_singleton _ _, fun a ha b hb => by rw [List.mem_singleton.1 hb]; exact ht a ha⟩
theorem pos_pl {M : Int → Option Value} {L : List Th} (h : Pos M L) (i : Nat) : Pl M L i L.length :=
  ⟨fun j a ha _ => h.at' j a ha, h.only, fun t ht => by unfold cntUp; rw [h.at' i t ht]; rfl⟩
def mapDn (M : Int → Option Value) (h : Nat) : Int → Option Value := fun y => if y = (h : Int) then none else M y
/-- The last one gone. -/
theorem pop_pos {M : Int → Option Value} {L : List Th} {t : Th} (h : Pos M (L ++ [t])) (hs : Hs (L ++ [t])) : Pos (mapDn M t.h) L := by
  obtain ⟨_, _, h3⟩ := List.pairwise_append.1 hs
  refine ⟨fun j a ha => ?_, fun x hx => ?_⟩
  · unfold mapDn
    have hm := List.mem_of_getElem? ha
    have := h3 a hm t (List.mem_singleton.2 rfl)
    rw [if_neg (by omega)]
    exact h.at' j a (by rw [List.getElem?_append_left (List.getElem?_eq_some_iff.1 ha).1]; exact ha)
  · unfold mapDn at hx
    by_cases e : x = (t.h : Int)
    · rw [if_pos e] at hx; cases hx
    · rw [if_neg e] at hx
      obtain ⟨a, ha, e2⟩ := h.only x hx
      rcases List.mem_append.1 ha with ha | ha
      · exact ⟨a, ha, e2⟩
      · rw [List.mem_singleton.1 ha] at e2; exact absurd e2.symm e
/-- The last one, z, takes the place of t at i. -/
theorem fill_pl {M : Int → Option Value} {L : List Th} {z t : Th} {i : Nat} (h : Pos M (L ++ [z])) (hs : Hs (L ++ [z])) (ht : L[i]? = some t) :
    Pl (mapUp (mapDn M t.h) z.h i) (L.set i z) i L.length ∧ cntUp (mapDn M t.h) z.h L.length = L.length ∧ (mapDn M t.h (z.h : Int)).isSome = true := by
  have hi := (List.getElem?_eq_some_iff.1 ht).1
  have htm : (L ++ [z])[i]? = some t := by rw [List.getElem?_append_left hi]; exact ht
  have hzm : (L ++ [z])[L.length]? = some z := by rw [List.getElem?_append_right (Nat.le_refl _)]; simp
  have hzt : (z.h : Int) ≠ (t.h : Int) := fun e => by have := hs.eq hzm htm (by omega); omega
  have hz : (mapDn M t.h (z.h : Int)) = some (.int .i64 L.length) := by unfold mapDn; rw [if_neg hzt]; exact h.at' _ _ hzm
  refine ⟨⟨fun j a ha hj => ?_, fun x hx => ?_, fun t' ht' => ?_⟩, by unfold cntUp; rw [hz]; rfl, by rw [hz]; rfl⟩
  · rw [List.getElem?_set_ne (fun e => hj e.symm)] at ha
    have hjl := (List.getElem?_eq_some_iff.1 ha).1
    have ham : (L ++ [z])[j]? = some a := by rw [List.getElem?_append_left hjl]; exact ha
    unfold mapUp mapDn
    rw [if_neg (fun e => by have := hs.eq ham hzm (by omega); omega), if_neg (fun e => hj (hs.eq ham htm (by omega)))]
    exact h.at' j a ham
  · unfold mapUp at hx
    by_cases e : x = (z.h : Int)
    · exact ⟨z, List.mem_of_getElem? (getset hi), e.symm⟩
    · rw [if_neg e] at hx
      unfold mapDn at hx
      by_cases e2 : x = (t.h : Int)
      · rw [if_pos e2] at hx; cases hx
      · rw [if_neg e2] at hx
        obtain ⟨a, ha, e3⟩ := h.only x hx
        rcases List.mem_append.1 ha with ha | ha
        · obtain ⟨j, hj⟩ := List.mem_iff_getElem?.1 ha
          have hji : i ≠ j := fun e4 => by
            subst e4; rw [ht] at hj; obtain rfl := Option.some.inj hj; exact e2 e3.symm
          exact ⟨a, List.mem_of_getElem? (i := j) (by rw [List.getElem?_set_ne hji]; exact hj), e3⟩
        · rw [List.mem_singleton.1 ha] at e3; exact absurd e3.symm e
  · obtain rfl : z = t' := by rw [getset hi] at ht'; exact Option.some.inj ht'
    unfold cntUp mapUp
    rw [if_pos rfl, List.length_set]; rfl
theorem fill_up {L : List Th} {z : Th} {i : Nat} (h : Hp (fn (L ++ [z])) (L.length + 1)) (hi : i < L.length) : Up (fn (L.set i z)) L.length i := by
  have hu := h.put (i := i) z
  refine hu.congr (fun j hj => ?_) hi
  rw [fn_set hi]
  by_cases e : j = i
  · simp only [if_pos e]
  · simp only [if_neg e]
    unfold fn; rw [List.getD_eq_getElem?_getD, List.getD_eq_getElem?_getD, List.getElem?_append_left hj]
theorem fill_perm {L : List Th} {z t : Th} {i : Nat} (ht : L[i]? = some t) : (t :: L.set i z).Perm (L ++ [z]) := by
  induction L generalizing i with
  | nil => simp at ht
  | cons x r ih =>
    cases i with
    | zero =>
      obtain rfl : x = t := by simpa using ht
      simp only [List.set_cons_zero, List.cons_append]
      exact (List.perm_append_singleton z r).symm.cons x
    | succ i =>
      simp only [List.set_cons_succ, List.cons_append]
      exact (List.Perm.swap x t _).trans ((ih (by simpa using ht)).cons x)
theorem fill_hs {L : List Th} {z t : Th} {i : Nat} (hs : Hs (L ++ [z])) (ht : L[i]? = some t) : Hs (L.set i z) :=
  (List.pairwise_cons.1 (hs.perm (fill_perm (z := z) ht))).2
/-- The first in order lies at the heap's top. -/
theorem top_first {L S : List Th} (h : Hp (fn L) L.length) (hp : L.Perm S) (hs : Srt S) (hh : Hs S) {x : Th} {r : List Th} (e : S = x :: r) : L[0]? = some x := by
  have hl : 0 < L.length := by rw [hp.length_eq, e]; simp
  have h0 := at_fn hl
  have hm : fn L 0 ∈ S := hp.mem_iff.1 (List.mem_of_getElem? h0)
  have hx : x ∈ L := hp.mem_iff.2 (by rw [e]; exact List.mem_cons_self ..)
  obtain ⟨j, hj⟩ := List.mem_iff_getElem?.1 hx
  have hle := h.least j (List.getElem?_eq_some_iff.1 hj).1
  rw [fn_at hj] at hle
  rw [e] at hm hs
  rcases List.mem_cons.1 hm with e2 | hm
  · rw [h0, e2]
  · exact absurd ((List.pairwise_cons.1 hs).1 _ hm) hle

end Go.Proofs.YtafeopcbfgmjkaaDoor
