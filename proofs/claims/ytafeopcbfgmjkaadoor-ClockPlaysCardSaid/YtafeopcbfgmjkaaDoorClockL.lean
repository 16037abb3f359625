/- Both clocks: one answer a call, as a function of the list. -/
import Derived.Test.YtafeopcbfgmjkaaDoorClockK
namespace Go.Proofs.YtafeopcbfgmjkaaDoor
open Go.RowKit

def offW (S : List Th) (u : Nat) : List Th := match findW S u with | some t => woH S t.h | none => S
def armS (S : List Th) (last u d : Nat) : List Th := if (armErr S u).isSome ∨ d = 18446744073709551615 then S else ins ⟨d, u, last + 1⟩ S
def armL (S : List Th) (last u d : Nat) : Nat := if (armErr S u).isSome ∨ d = 18446744073709551615 then last else last + 1
theorem find_has {S : List Th} (hw : Hw S) (u : Nat) : (∃ t ∈ S, t.what = u ∧ hasW S u = true ∧ findW S u = some t) ∨ (hasW S u = false ∧ findW S u = none) := by
  cases h : hasW S u with
  | true =>
    obtain ⟨t, ht, rfl⟩ := hasW_iff.1 h
    exact .inl ⟨t, ht, rfl, rfl, findW_of hw ht⟩
  | false => exact .inr ⟨rfl, findW_none h⟩

section
variable {w : World} {cb hb mb bm rb last now u d : Nat} {v : Value} {S : List Th}
theorem pdisarm_any (h : ClockRep w cb hb mb bm v S last now) (hu : u < 18446744073709551616) :
    Calls Tryd.prog 9 #[.pointer (some ⟨cb, 0, none⟩), .int .u64 u] w fun e w' => e = .returned (.bool (hasW S u)) ∧ ∃ v', ClockRep w' cb hb mb bm v' (offW S u) last now ∧ (∀ k, v'.ownBlock = some k → v.ownBlock = some k ∨ w.heap.size ≤ k) ∧ Fr (cOwn cb hb mb bm v) w w' := by
  rcases find_has h.once u with ⟨t, ht, rfl, e1, e2⟩ | ⟨e1, e2⟩
  · refine (disarm_ok cb hb mb bm v S last now t w h ht).mono ?_
    rintro e w' ⟨rfl, v', h1, h2, h3⟩
    exact ⟨by rw [e1], v', by unfold offW; rw [e2]; exact h1, fun k hk => .inl (h2 k hk), h3⟩
  · refine (disarm_no cb hb mb bm v S last now u w h hu e1).mono ?_
    rintro e w' ⟨rfl, h1⟩
    exact ⟨by rw [e1], v, by unfold offW; rw [e2]; exact h.new h1, fun k hk => .inl hk, h1.mono (fun _ _ h => h.elim)⟩
theorem rdisarm_any (h : DocRep w rb v S last now) (hw : Hw S) (hs : Hs S) :
    Calls Tryd.prog 14 #[.pointer (some ⟨rb, 0, none⟩), .int .u64 u] w fun e w' => e = .returned (.bool (hasW S u)) ∧ ∃ v', DocRep w' rb v' (offW S u) last now ∧ (∀ k, v'.ownBlock = some k → v.ownBlock = some k ∨ w.heap.size ≤ k) ∧ Fr (· = rb) w w' := by
  rcases find_has hw u with ⟨t, ht, rfl, e1, e2⟩ | ⟨e1, e2⟩
  · refine (rdisarm_ok rb v S t last now w h hw hs ht).mono ?_
    rintro e w' ⟨rfl, v', h1, h2, h3⟩
    exact ⟨by rw [e1], v', by unfold offW; rw [e2]; exact h1, fun k hk => .inr (h2 k hk), h3⟩
  · refine (rdisarm_no rb v S last now u w h e1).mono ?_
    rintro e w' ⟨rfl, h1⟩
    exact ⟨by rw [e1], v, by unfold offW; rw [e2]; exact h.new h1, fun k hk => .inl hk, h1.mono (fun _ _ h => h.elim)⟩
theorem pdeadline_any (h : ClockRep w cb hb mb bm v S last now) (hu : u < 18446744073709551616) :
    Calls Tryd.prog 15 #[.pointer (some ⟨cb, 0, none⟩), .int .u64 u] w fun e w' => e = .returned (.tuple #[.int .u64 (((findW S u).map (·.d)).getD 0), .bool (findW S u).isSome]) ∧ New w w' := by
  rcases find_has h.once u with ⟨t, ht, rfl, e1, e2⟩ | ⟨e1, e2⟩
  · rw [e2]; exact deadline_ok cb hb mb bm v S last now t w h ht
  · rw [e2]; exact deadline_no cb hb mb bm v S last now u w h hu e1
theorem arm_cases (S : List Th) (u : Nat) : (armErr S u ≠ none) ∨ (armErr S u = none ∧ 1 ≤ u ∧ hasW S u = false) := by
  unfold armErr
  by_cases h0 : u = 0
  · left; rw [if_pos h0]; simp
  · rw [if_neg h0]
    cases h : hasW S u with
    | true => left; simp
    | false => right; exact ⟨rfl, by omega, rfl⟩
theorem parm_any (h : ClockRep w cb hb mb bm v S last now) (hu : u < 18446744073709551616) (hd : d < 18446744073709551616) (hl : last < 10000) (hsl : S.length < 10000) :
    Calls Tryd.prog 6 #[.pointer (some ⟨cb, 0, none⟩), .int .u64 u, .int .u64 d] w fun e w' => ∃ x v', e = .returned x ∧ Says w' clockL x (armErr S u) ∧ ClockRep w' cb hb mb bm v' (armS S last u d) (armL S last u d) now ∧ (∀ k, v'.ownBlock = some k → v.ownBlock = some k ∨ w.heap.size ≤ k) ∧ Fr (cOwn cb hb mb bm v) w w' := by
  unfold armS armL
  rcases arm_cases S u with he | ⟨he, hu1, hno⟩
  · rw [if_pos (.inl (Option.isSome_iff_ne_none.2 he)), if_pos (.inl (Option.isSome_iff_ne_none.2 he))]
    refine (arm_no cb hb mb bm v S last now u d w h hu he).mono ?_
    rintro e w' ⟨x, rfl, _, h1, h2⟩
    exact ⟨x, v, rfl, h1, h.new h2, fun k hk => .inl hk, h2.mono (fun _ _ h => h.elim)⟩
  · rw [he]
    by_cases hf : d = 18446744073709551615
    · subst hf
      rw [if_pos (.inr rfl), if_pos (.inr rfl)]
      refine (arm_forever cb hb mb bm v S last now u w h hu1 hu hno).mono ?_
      rintro e w' ⟨rfl, h2⟩
      exact ⟨_, v, rfl, rfl, h.new h2, fun k hk => .inl hk, h2.mono (fun _ _ h => h.elim)⟩
    · rw [if_neg (by simp [hf]), if_neg (by simp [hf])]
      refine (arm_ok cb hb mb bm v S last now u d w h hu1 hu (by omega) hno hl hsl).mono ?_
      rintro e w' ⟨rfl, v', h1, h2, h3⟩
      exact ⟨_, v', rfl, rfl, h1, h2, h3⟩
theorem rarm_any (h : DocRep w rb v S last now) (hl : last < 10000) (hsl : S.length < 10000) :
    Calls Tryd.prog 19 #[.pointer (some ⟨rb, 0, none⟩), .int .u64 u, .int .u64 d] w fun e w' => ∃ x v', e = .returned x ∧ SaysF w' clockL x (armErr S u) ∧ DocRep w' rb v' (armS S last u d) (armL S last u d) now ∧ (∀ k, v'.ownBlock = some k → v.ownBlock = some k ∨ w.heap.size ≤ k) ∧ Fr (· = rb) w w' := by
  unfold armS armL
  rcases arm_cases S u with he | ⟨he, hu1, hno⟩
  · rw [if_pos (.inl (Option.isSome_iff_ne_none.2 he)), if_pos (.inl (Option.isSome_iff_ne_none.2 he))]
    refine (rarm_no rb v S last now u d w h he).mono ?_
    rintro e w' ⟨x, rfl, h1, h2⟩
    exact ⟨x, v, rfl, h1, h.new h2, fun k hk => .inl hk, h2.mono (fun _ _ h => h.elim)⟩
  · rw [he]
    by_cases hf : d = 18446744073709551615
    · subst hf
      rw [if_pos (.inr rfl), if_pos (.inr rfl)]
      refine (rarm_forever rb v S last now u w h hu1 hno).mono ?_
      rintro e w' ⟨rfl, h2⟩
      exact ⟨_, v, rfl, rfl, h.new h2, fun k hk => .inl hk, h2.mono (fun _ _ h => h.elim)⟩
    · rw [if_neg (by simp [hf]), if_neg (by simp [hf])]
      refine (rarm_ok rb v S last now u d w h hu1 hno hf hl hsl).mono ?_
      rintro e w' ⟨rfl, v', h1, h2, h3⟩
      exact ⟨_, v', rfl, rfl, h1, fun k hk => .inr (h2 k hk), h3⟩
end

end Go.Proofs.YtafeopcbfgmjkaaDoor
