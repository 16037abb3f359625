/- The program's objects and the document's: one answer a call, the same on both sides. -/
import Derived.Test.YtincfbgegoefgaaDoorObjL
import Derived.Test.YtincfbgegoefgaaDoorKinds
namespace Go.Proofs.YtincfbgegoefgaaDoor
open Go.RowKit

/-- Who has a handle. -/
def rowOf (l : List Row) (h : Nat) : Option Row := if h = 0 then none else (l[(h - 1) % 64]?).bind fun r => if r.handle = h then some r else none
theorem rowOf_some {l : List Row} {h : Nat} {r : Row} (e : rowOf l h = some r) : ∃ h', h = h' + 1 ∧ l[h' % 64]? = some r ∧ r.handle = h' + 1 := by
  unfold rowOf at e
  by_cases h0 : h = 0
  · rw [if_pos h0] at e; cases e
  · rw [if_neg h0] at e
    obtain ⟨h', rfl⟩ : ∃ h', h = h' + 1 := ⟨h - 1, by omega⟩
    rw [Nat.add_sub_cancel] at e
    cases hx : l[h' % 64]? with
    | none => rw [hx] at e; cases e
    | some x =>
      rw [hx, Option.bind_some] at e
      by_cases hh : x.handle = h' + 1
      · rw [if_pos hh] at e
        obtain rfl := Option.some.inj e
        exact ⟨h', rfl, hx, hh⟩
      · rw [if_neg hh] at e; cases e
theorem rowOf_none {l : List Row} {h : Nat} (e : rowOf l h = none) : NoHandle l h := by
  unfold rowOf at e
  by_cases h0 : h = 0
  · exact .inl h0
  · rw [if_neg h0] at e
    refine .inr fun r hr hh => ?_
    rw [hr, Option.bind_some, if_pos hh] at e
    cases e
def freeAt (l : List Row) : Option Nat := l.findIdx? fun r => r.handle == 0
def mkH (l : List Row) (k : Int) : Nat := if k < 1 ∨ 6 < k then 0 else match freeAt l with | some p => p + 1 + 64 * (l[p]?.elim 0 Row.times) | none => 0
def mkE (l : List Row) (k : Int) : Option (Int × Int) := if k < 1 ∨ 6 < k then some (0, 1) else match freeAt l with | some _ => none | none => some (0, 3)
def mkL (l : List Row) (k : Int) (a : Nat) : List Row := if k < 1 ∨ 6 < k then l else match freeAt l with | some p => l.set p ⟨l[p]?.elim 0 Row.times + 1, p + 1 + 64 * (l[p]?.elim 0 Row.times), k, a⟩ | none => l
def fdA (l : List Row) (h : Nat) (k : Int) : Nat := match rowOf l h with | some r => if r.kind = k then r.addr else 0 | none => 0
def fdE (l : List Row) (h : Nat) (k : Int) : Option (Int × Int) := match rowOf l h with | some r => if r.kind = k then none else some (0, 1) | none => some (0, 7)
def gnE (l : List Row) (h : Nat) : Option (Int × Int) := match rowOf l h with | some _ => none | none => some (0, 7)
def gnL (l : List Row) (h : Nat) : List Row := match rowOf l h with | some r => l.set ((h - 1) % 64) ⟨r.times, 0, 0, 0⟩ | none => l
def kdI (l : List Row) (h : Nat) : Int := match rowOf l h with | some r => r.kind | none => 0
theorem says_of {w : World} {v : Value} {k : Int} (h : IsErr w v k) (h1 : 1 ≤ k) (h2 : k ≤ 10) : Says w objL v (some (0, k)) := ⟨h.errIs, h1, h2⟩
theorem free_cases (l : List Row) : (freeAt l = none ∧ ∀ r ∈ l, r.handle ≠ 0) ∨ ∃ p r, freeAt l = some p ∧ l[p]? = some r ∧ r.handle = 0 ∧ ∀ q r', q < p → l[q]? = some r' → r'.handle ≠ 0 := by
  unfold freeAt
  cases e : l.findIdx? (fun r => r.handle == 0) with
  | none => exact .inl ⟨rfl, fun r hr => by have := List.findIdx?_eq_none_iff.1 e r hr; simpa using this⟩
  | some p =>
    obtain ⟨h1, h2, h3⟩ := List.findIdx?_eq_some_iff_getElem.1 e
    refine .inr ⟨p, l[p], rfl, by simp, by simpa using h2, fun q r' hq hr => ?_⟩
    have := h3 q hq
    obtain ⟨e1, e2⟩ := List.getElem?_eq_some_iff.1 hr
    rw [← e2]; simpa using this

section
variable {w : World} {b rb b2 lb tb : Nat} {l : List Row} {h a : Nat} {k : Int}
theorem pmake_any (hr : ObjRep w b rb l) (ht : ∀ r ∈ l, r.times < 999999) :
    Calls Tryd.prog 11 #[.pointer (some ⟨b, 0, none⟩), .int .i64 k, .int .u64 a] w fun e w' => ∃ x, e = .returned (.tuple #[.int .u64 (mkH l k : Nat), x]) ∧ Says w' objL x (mkE l k) ∧ ObjRep w' b rb (mkL l k a) ∧ Fr (· = rb) w w' := by
  unfold mkH mkE mkL
  by_cases hk : k < 1 ∨ 6 < k
  · simp only [if_pos hk]
    refine (make_bad b k a w hk).mono ?_
    rintro e w' ⟨v, rfl, he, hn⟩
    exact ⟨v, rfl, says_of he (by omega) (by omega), hr.keep hn id id, hn.mono (fun _ _ h => h.elim)⟩
  · simp only [if_neg hk]
    rcases free_cases l with ⟨h1, h2⟩ | ⟨p, r, h1, h2, h3, h4⟩
    · rw [h1]
      refine (make_full b rb l k a w hr (by omega) (by omega) h2).mono ?_
      rintro e w' ⟨v, rfl, he, hn⟩
      exact ⟨v, rfl, says_of he (by omega) (by omega), hr.keep hn id id, hn.mono (fun _ _ h => h.elim)⟩
    · simp only [h1, h2, Option.elim_some]
      refine (make_ok b rb l k a p r w hr (by omega) (by omega) h2 (ht r (List.mem_of_getElem? h2)) h3 h4).mono ?_
      rintro e w' ⟨rfl, hr', hf⟩
      exact ⟨_, rfl, rfl, hr', hf⟩
theorem rmake_any (hr : DocO w b2 lb tb l) (ht : ∀ r ∈ l, r.times < 999999) :
    Calls Tryd.prog 22 #[.pointer (some ⟨b2, 0, none⟩), .int .i64 k, .int .u64 a] w fun e w' => ∃ f, e = .returned (.tuple #[.int .u64 (mkH l k : Nat), f]) ∧ SaysF w' objL f (mkE l k) ∧ DocO w' b2 lb tb (mkL l k a) ∧ Fr (fun j => mkE l k = none ∧ (j = lb ∨ j = tb)) w w' := by
  unfold mkH mkE mkL
  by_cases hk : k < 1 ∨ 6 < k
  · simp only [if_pos hk]
    refine (rmake_bad b2 k a w hk).mono ?_
    rintro e w' ⟨v, rfl, he, hn⟩
    exact ⟨v, rfl, he, hr.new hn, hn.mono (fun _ _ h => h.elim)⟩
  · simp only [if_neg hk]
    rcases free_cases l with ⟨h1, h2⟩ | ⟨p, r, h1, h2, h3, h4⟩
    · rw [h1]
      refine (rmake_full b2 lb tb l k a w hr (by omega) (by omega) h2).mono ?_
      rintro e w' ⟨v, rfl, he, hn⟩
      exact ⟨v, rfl, he, hr.new hn, hn.mono (fun _ _ h => h.elim)⟩
    · simp only [h1, h2, Option.elim_some]
      refine (rmake_ok b2 lb tb l k a p r w hr (by omega) (by omega) h2 (ht r (List.mem_of_getElem? h2)) h3 h4).mono ?_
      rintro e w' ⟨rfl, hr', hf⟩
      exact ⟨_, rfl, rfl, hr', hf.mono (fun _ _ h => ⟨trivial, h⟩)⟩
theorem pfind_any (hr : ObjRep w b rb l) (hh : h < 18446744073709551616) :
    Calls Tryd.prog 16 #[.pointer (some ⟨b, 0, none⟩), .int .u64 h, .int .i64 k] w fun e w' => ∃ x, e = .returned (.tuple #[.int .u64 (fdA l h k : Nat), x]) ∧ Says w' objL x (fdE l h k) ∧ New w w' := by
  unfold fdA fdE
  cases e : rowOf l h with
  | none =>
    refine (find_none b rb l h k w hr hh (rowOf_none e)).mono ?_
    rintro e w' ⟨v, rfl, he, hn⟩
    exact ⟨v, rfl, says_of he (by omega) (by omega), hn⟩
  | some r =>
    obtain ⟨h', rfl, h2, h3⟩ := rowOf_some e
    by_cases hk : r.kind = k
    · simp only [if_pos hk]
      subst hk
      refine (find_ok b rb l h' r w hr (by omega) h2 h3).mono ?_
      rintro e w' ⟨rfl, rfl⟩
      exact ⟨_, rfl, rfl, Fr.refl _ _⟩
    · simp only [if_neg hk]
      refine (find_other b rb l h' r k w hr (by omega) h2 h3 hk).mono ?_
      rintro e w' ⟨v, rfl, he, hn⟩
      exact ⟨v, rfl, says_of he (by omega) (by omega), hn⟩
theorem rfindO_any (hr : DocO w b2 lb tb l) (hpl : Placed l) (hh : h < 18446744073709551616) :
    Calls Tryd.prog 17 #[.pointer (some ⟨b2, 0, none⟩), .int .u64 h, .int .i64 k] w fun e w' => ∃ f, e = .returned (.tuple #[.int .u64 (fdA l h k : Nat), f]) ∧ SaysF w' objL f (fdE l h k) ∧ New w w' := by
  unfold fdA fdE
  cases e : rowOf l h with
  | none =>
    refine (rfind_none b2 lb tb l h w k hr hpl (rowOf_none e)).mono ?_
    rintro e w' ⟨v, rfl, he, hn⟩
    exact ⟨v, rfl, he, hn⟩
  | some r =>
    obtain ⟨h', rfl, h2, h3⟩ := rowOf_some e
    exact rfind_any b2 lb tb l h' w hr hpl (by omega) h2 h3 k
theorem pgone_any (hr : ObjRep w b rb l) (hh : h < 18446744073709551616) :
    Calls Tryd.prog 18 #[.pointer (some ⟨b, 0, none⟩), .int .u64 h] w fun e w' => ∃ x, e = .returned x ∧ Says w' objL x (gnE l h) ∧ ObjRep w' b rb (gnL l h) ∧ Fr (· = rb) w w' := by
  unfold gnE gnL
  cases e : rowOf l h with
  | none =>
    refine (gone_none b rb l h w hr hh (rowOf_none e)).mono ?_
    rintro e w' ⟨v, rfl, he, hn⟩
    exact ⟨v, rfl, says_of he (by omega) (by omega), hr.keep hn id id, hn.mono (fun _ _ h => h.elim)⟩
  | some r =>
    obtain ⟨h', rfl, h2, h3⟩ := rowOf_some e
    refine (gone_ok b rb l h' r w hr (by omega) h2 h3).mono ?_
    rintro e w' ⟨rfl, hr', hf⟩
    exact ⟨_, rfl, rfl, by simpa only [Nat.add_sub_cancel] using hr', hf⟩
theorem rgone_any (hr : DocO w b2 lb tb l) (hpl : Placed l) (hh : h < 18446744073709551616) :
    Calls Tryd.prog 19 #[.pointer (some ⟨b2, 0, none⟩), .int .u64 h] w fun e w' => ∃ f, e = .returned f ∧ SaysF w' objL f (gnE l h) ∧ DocO w' b2 lb tb (gnL l h) ∧ Fr (fun j => gnE l h = none ∧ (j = lb ∨ j = tb)) w w' := by
  unfold gnE gnL
  cases e : rowOf l h with
  | none =>
    refine (rgone_none b2 lb tb l h w hr hpl (rowOf_none e)).mono ?_
    rintro e w' ⟨v, rfl, he, hn⟩
    exact ⟨v, rfl, he, hr.new hn, hn.mono (fun _ _ h => h.elim)⟩
  | some r =>
    obtain ⟨h', rfl, h2, h3⟩ := rowOf_some e
    refine (rgone_ok b2 lb tb l h' w hr hpl (by omega) h2 h3).mono ?_
    rintro e w' ⟨rfl, hr', hf⟩
    exact ⟨_, rfl, rfl, by simpa only [Nat.add_sub_cancel] using hr', hf.mono (fun _ _ h => ⟨rfl, h⟩)⟩
theorem pkind_any (hr : ObjRep w b rb l) (hh : h < 18446744073709551616) :
    Calls Tryd.prog 20 #[.pointer (some ⟨b, 0, none⟩), .int .u64 h] w fun e w' => e = .returned (.int .i64 (kdI l h)) ∧ w = w' := by
  unfold kdI
  cases e : rowOf l h with
  | none => exact okind_none b rb l h w hr hh (rowOf_none e)
  | some r =>
    obtain ⟨h', rfl, h2, h3⟩ := rowOf_some e
    exact okind_ok b rb l h' r w hr (by omega) h2 h3
theorem rkind_any (hr : DocO w b2 lb tb l) (hpl : Placed l) (hh : h < 18446744073709551616) :
    Calls Tryd.prog 21 #[.pointer (some ⟨b2, 0, none⟩), .int .u64 h] w fun e w' => e = .returned (.int .i64 (kdI l h)) ∧ w = w' := by
  unfold kdI
  cases e : rowOf l h with
  | none => exact rkind_none b2 lb tb l h w hr hpl (rowOf_none e)
  | some r =>
    obtain ⟨h', rfl, h2, h3⟩ := rowOf_some e
    exact rkind_ok b2 lb tb l h' w hr hpl (by omega) h2 h3
end

/-- How often the places were taken, at most. -/
def Taken (l : List Row) (j : Nat) : Prop := ∀ r ∈ l, r.times ≤ j
theorem Taken.mk {l : List Row} {j : Nat} (h : Taken l j) (k : Int) (a : Nat) : Taken (mkL l k a) (j + 1) := by
  unfold mkL
  by_cases hk : k < 1 ∨ 6 < k
  · rw [if_pos hk]; exact fun r hr => Nat.le_succ_of_le (h r hr)
  · rw [if_neg hk]
    rcases free_cases l with ⟨h1, _⟩ | ⟨p, r, h1, h2, _⟩
    · rw [h1]; exact fun r hr => Nat.le_succ_of_le (h r hr)
    · simp only [h1, h2, Option.elim_some]
      intro x hx
      rcases List.mem_or_eq_of_mem_set hx with hx | rfl
      · exact Nat.le_succ_of_le (h x hx)
      · exact Nat.succ_le_succ (h r (List.mem_of_getElem? h2))
theorem Taken.gn {l : List Row} {j : Nat} (h : Taken l j) (u : Nat) : Taken (gnL l u) j := by
  unfold gnL
  cases e : rowOf l u with
  | none => exact h
  | some r =>
    obtain ⟨h', rfl, h2, h3⟩ := rowOf_some e
    intro x hx
    rcases List.mem_or_eq_of_mem_set hx with hx | rfl
    · exact h x hx
    · exact h r (List.mem_of_getElem? h2)
theorem Placed.mk {l : List Row} {j : Nat} (h : Placed l) (ht : Taken l j) (hj : j < 999999) (hl : l.length ≤ 64) (k : Int) (a : Nat) : Placed (mkL l k a) := by
  unfold mkL
  by_cases hk : k < 1 ∨ 6 < k
  · rw [if_pos hk]; exact h
  · rw [if_neg hk]
    rcases free_cases l with ⟨h1, _⟩ | ⟨p, r, h1, h2, _⟩
    · rw [h1]; exact h
    · simp only [h1, h2, Option.elim_some]
      have := ht r (List.mem_of_getElem? h2)
      have := (List.getElem?_eq_some_iff.1 h2).1
      refine h.set fun _ => ⟨by show p + 1 + 64 * r.times < _; omega, by show (p + 1 + 64 * r.times - 1) % 64 = p; omega⟩
theorem Placed.gn {l : List Row} (h : Placed l) (u : Nat) : Placed (gnL l u) := by
  unfold gnL
  cases e : rowOf l u with
  | none => exact h
  | some r => exact h.set fun h0 => absurd rfl h0

end Go.Proofs.YtincfbgegoefgaaDoor
