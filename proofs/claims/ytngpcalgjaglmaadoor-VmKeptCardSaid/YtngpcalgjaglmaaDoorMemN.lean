/- One call at both memories: they answer alike. -/
import Derived.Test.YtngpcalgjaglmaaDoorMemM
import Derived.Test.YtngpcalgjaglmaaDoorWithin
namespace Go.Proofs.YtngpcalgjaglmaaDoor
open Go.RowKit

theorem cnt_set : ∀ (l : List Nat) (i x : Nat), i < l.length → cnt (l.set i x) + (if l.getD i 0 != 0 then 1 else 0) = cnt l + (if x != 0 then 1 else 0)
  | [], i, x, h => by simp at h
  | a :: l, 0, x, h => by unfold cnt; simp [List.countP_cons]; omega
  | a :: l, i + 1, x, h => by
    have := cnt_set l i x (by simpa using h)
    unfold cnt at this ⊢
    simp only [List.set_cons_succ, List.countP_cons, List.getD_cons_succ]
    omega
theorem getD_fill {ws : List Nat} {a m V i : Nat} (hi : i < ws.length) (h : ¬ (a ≤ i ∧ i < a + m)) : (fill ws a m V).getD i 0 = ws.getD i 0 := by
  rw [List.getD_eq_getElem?_getD, fill_get _ _ _ _ _ hi, if_neg h]; rfl
theorem cnt_up (ws : List Nat) (a V : Nat) (hV : V ≠ 0) : ∀ m, a + m ≤ ws.length → (∀ i, a ≤ i → i < a + m → (ws.getD i 0 != 0) = false) → cnt (fill ws a m V) = cnt ws + m
  | 0, _, _ => by rw [fill_zero]; rfl
  | m + 1, hl, h => by
    have h1 := cnt_up ws a V hV m (by omega) (fun i h1 h2 => h i h1 (by omega))
    have h2 := cnt_set (fill ws a m V) (a + m) V (by rw [fill_len]; omega)
    rw [fill_succ, getD_fill (by omega) (by omega), h (a + m) (by omega) (by omega)] at h2
    have : (V != 0) = true := by simpa using hV
    rw [this] at h2
    simp at h2; omega
theorem cnt_down (ws : List Nat) (a : Nat) : ∀ m, a + m ≤ ws.length → (∀ i, a ≤ i → i < a + m → (ws.getD i 0 != 0) = true) → cnt (fill ws a m 0) + m = cnt ws
  | 0, _, _ => by rw [fill_zero]; rfl
  | m + 1, hl, h => by
    have h1 := cnt_down ws a m (by omega) (fun i h1 h2 => h i h1 (by omega))
    have h2 := cnt_set (fill ws a m 0) (a + m) 0 (by rw [fill_len]; omega)
    rw [fill_succ, getD_fill (by omega) (by omega), h (a + m) (by omega) (by omega)] at h2
    simp at h2; omega
theorem cnt_le (ws : List Nat) : cnt ws ≤ ws.length := List.countP_le_length

theorem map_cnt {ws : List Nat} {at_ n W : Int} (h : mapErr ws at_ n W = none) : ((cnt ws : Nat) : Int) + n = (cnt (fill ws at_.toNat n.toNat W.toNat) : Nat) ∧ 1 ≤ n := by
  unfold mapErr at h
  split at h
  · cases h
  · obtain ⟨a, m, rfl, rfl, h1, hl, hz⟩ := rowErr_none h (by omega)
    have := cnt_up ws a W.toNat (by omega) m hl hz
    simp only [Int.toNat_natCast]; omega
theorem unmap_cnt {ws : List Nat} {at_ n : Int} (h : unmapErr ws at_ n = none) : ((cnt (fill ws at_.toNat n.toNat 0) : Nat) : Int) + n = (cnt ws : Nat) ∧ 1 ≤ n := by
  unfold unmapErr at h
  split at h
  · cases h
  · obtain ⟨a, m, rfl, rfl, h1, hl, hz⟩ := rowErr_none h (by omega)
    have := cnt_down ws a m hl hz
    simp only [Int.toNat_natCast]; omega

/-- Both memories hold the same. -/
structure Sync (w : World) (b cb wb rb rwb rhb : Nat) (cs ws : List Nat) (ct : Nat) : Prop where
  m : MemRep w b cb wb cs ws (cnt ws) ct
  r : RefRep w rb rwb rhb cs ws ct
  ab : b ≠ rb ∧ b ≠ rwb ∧ b ≠ rhb
  ac : cb ≠ rb ∧ cb ≠ rwb ∧ cb ≠ rhb
  aw : wb ≠ rb ∧ wb ≠ rwb ∧ wb ≠ rhb
def Six (b cb wb rb rwb rhb k : Nat) : Prop := (k = b ∨ k = cb ∨ k = wb) ∨ (k = rb ∨ k = rwb ∨ k = rhb)
theorem Sync.keep {w w' : World} {b cb wb rb rwb rhb : Nat} {cs ws : List Nat} {ct : Nat} {S : Nat → Prop} (h : Sync w b cb wb rb rwb rhb cs ws ct) (f : Fr S w w') (hs : ∀ k, Six b cb wb rb rwb rhb k → ¬ S k) : Sync w' b cb wb rb rwb rhb cs ws ct :=
  ⟨h.m.keep f (hs _ (.inl (.inl rfl))) (hs _ (.inl (.inr (.inl rfl)))) (hs _ (.inl (.inr (.inr rfl)))), h.r.keep f (hs _ (.inr (.inl rfl))) (hs _ (.inr (.inr (.inl rfl)))) (hs _ (.inr (.inr (.inr rfl)))), h.ab, h.ac, h.aw⟩
/-- What one call leaves. -/
def Synced (w : World) (b cb wb rb rwb rhb n ct : Nat) : Prop := ∃ cs ws ct', Sync w b cb wb rb rwb rhb cs ws ct' ∧ ws.length = n ∧ ct' ≤ ct + 1

theorem Synced.keep {w w' : World} {b cb wb rb rwb rhb n ct : Nat} {S : Nat → Prop} (h : Synced w b cb wb rb rwb rhb n ct) (f : Fr S w w') (hs : ∀ k, Six b cb wb rb rwb rhb k → ¬ S k) : Synced w' b cb wb rb rwb rhb n ct := by
  obtain ⟨cs, ws, ct', h1, h2, h3⟩ := h
  exact ⟨cs, ws, ct', h1.keep f hs, h2, h3⟩

section
variable {b cb wb rb rwb rhb : Nat} {cs ws : List Nat} {ct : Nat}
theorem map_synced {w : World} {at_ n W : Int} (ha : b ≠ rb ∧ b ≠ rwb ∧ b ≠ rhb) (hc : cb ≠ rb ∧ cb ≠ rwb ∧ cb ≠ rhb) (hw : wb ≠ rb ∧ wb ≠ rwb ∧ wb ≠ rhb) {t : Nat} (ht : t = cnt ws)
    (h1 : if mapErr ws at_ n W = none then ∃ th', MemRep w b cb wb (fill cs at_.toNat n.toNat 0) (fill ws at_.toNat n.toNat W.toNat) th' ct ∧ th' = t + n.toNat else MemRep w b cb wb cs ws t ct)
    (h2 : if mapErr ws at_ n W = none then RefRep w rb rwb rhb (fill cs at_.toNat n.toNat 0) (fill ws at_.toNat n.toNat W.toNat) ct else RefRep w rb rwb rhb cs ws ct) : Synced w b cb wb rb rwb rhb ws.length ct := by
  subst ht
  by_cases he : mapErr ws at_ n W = none
  · rw [if_pos he] at h1 h2
    obtain ⟨th, h3, h4⟩ := h1
    have := map_cnt he
    obtain rfl : th = cnt (fill ws at_.toNat n.toNat W.toNat) := by omega
    exact ⟨_, _, ct, ⟨h3, h2, ha, hc, hw⟩, fill_len _ _ _ _, by omega⟩
  · rw [if_neg he] at h1 h2
    exact ⟨_, _, ct, ⟨h1, h2, ha, hc, hw⟩, rfl, by omega⟩
theorem unmap_synced {w : World} {at_ n : Int} (ha : b ≠ rb ∧ b ≠ rwb ∧ b ≠ rhb) (hc : cb ≠ rb ∧ cb ≠ rwb ∧ cb ≠ rhb) (hw : wb ≠ rb ∧ wb ≠ rwb ∧ wb ≠ rhb) {t : Nat} (ht : t = cnt ws)
    (h1 : if unmapErr ws at_ n = none then ∃ th', MemRep w b cb wb (fill cs at_.toNat n.toNat 0) (fill ws at_.toNat n.toNat 0) th' ct ∧ th' = t - n.toNat else MemRep w b cb wb cs ws t ct)
    (h2 : if unmapErr ws at_ n = none then RefRep w rb rwb rhb (fill cs at_.toNat n.toNat 0) (fill ws at_.toNat n.toNat 0) ct else RefRep w rb rwb rhb cs ws ct) : Synced w b cb wb rb rwb rhb ws.length ct := by
  subst ht
  by_cases he : unmapErr ws at_ n = none
  · rw [if_pos he] at h1 h2
    obtain ⟨th, h3, h4⟩ := h1
    have := unmap_cnt he
    obtain rfl : th = cnt (fill ws at_.toNat n.toNat 0) := by omega
    exact ⟨_, _, ct, ⟨h3, h2, ha, hc, hw⟩, fill_len _ _ _ _, by omega⟩
  · rw [if_neg he] at h1 h2
    exact ⟨_, _, ct, ⟨h1, h2, ha, hc, hw⟩, rfl, by omega⟩
end

theorem acc_lt {cs ws : List Nat} (h : ∀ x ∈ cs, x < 18446744073709551616) (p : Nat) : accVal cs ws p < 18446744073709551616 := by
  unfold accVal
  split
  · omega
  · rcases Nat.lt_or_ge p cs.length with hh | hh
    · rw [List.getD_eq_getElem?_getD, List.getElem?_eq_getElem hh]; exact h _ (List.getElem_mem hh)
    · rw [List.getD_eq_getElem?_getD, List.getElem?_eq_none hh]; decide
theorem laid_load (cs ws : List Nat) (p o v : Nat) : accCs 0 cs ws p 0 0 = accCs 0 cs ws p o v := rfl
theorem laid_swap (cs ws : List Nat) (p o v : Nat) : accCs 2 cs ws p 0 v = accCs 2 cs ws p o v := rfl
theorem laid_add (cs ws : List Nat) (p o v : Nat) : accCs 3 cs ws p 0 v = accCs 3 cs ws p o v := rfl
theorem laid_store (cs ws : List Nat) (p o v : Nat) : accCs 1 cs ws p 0 v = accCs 1 cs ws p o v := rfl

end Go.Proofs.YtngpcalgjaglmaaDoor
