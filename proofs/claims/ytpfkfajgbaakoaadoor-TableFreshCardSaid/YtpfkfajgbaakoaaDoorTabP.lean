/- The table of threads, plainly: its rows, what each call answers and what it leaves. -/
import Derived.Test.YtpfkfajgbaakoaaDoorRowsS
namespace Go.Proofs.YtpfkfajgbaakoaaDoor
open Go.RowKit

structure TR where
  times : Nat
  taken : Bool
  reaped : Bool
  id : Nat
  state : Int
  home : Nat
  value : Nat
  joiner : Nat
  loose : Bool
  stepping : Bool

/-- A row of the program's, and one of the document's. -/
def pC (r : TR) : List Value := [.int .u64 r.times, .bool r.taken, .bool r.reaped, .int .u64 r.id, .int .i64 r.state, .int .u64 r.home, .int .u64 r.value, .int .u64 r.joiner, .bool r.loose, .bool r.stepping]
def dC (r : TR) : List Value := [.int .u64 r.id, .int .i64 r.state, .int .u64 r.home, .int .u64 r.value, .int .u64 r.joiner, .bool r.loose, .bool r.stepping, .bool r.reaped, .int .i64 r.times]
/-- The thread alone. -/
def tC (r : TR) : List Value := [.int .u64 r.id, .int .i64 r.state, .int .u64 r.home, .int .u64 r.value, .int .u64 r.joiner, .bool r.loose, .bool r.stepping]
theorem pC_len (r : TR) : (pC r).length = 10 := rfl
theorem dC_len (r : TR) : (dC r).length = 9 := rfl
theorem tC_len (r : TR) : (tC r).length = 7 := rfl
/-- A place that was never taken. -/
def noneR : TR := ⟨0, false, false, 0, 0, 0, 0, 0, false, false⟩
/-- A place that is free again. -/
def gone (r : TR) : TR := ⟨r.times, false, false, 0, 0, 0, 0, 0, false, false⟩

structure PRep (w : World) (b rb : Nat) (l : List TR) : Prop where
  ne : b ≠ rb
  hd : Arr w b [.slice (some ⟨rb, 0, none⟩) l.length l.length]
  rows : Arr w rb (l.flatMap pC)
  len : l.length ≤ 64
structure DRep (w : World) (b rb : Nat) (l : List TR) : Prop where
  ne : b ≠ rb
  hd : Arr w b [.slice (some ⟨rb, 0, none⟩) l.length l.length]
  rows : Arr w rb (l.flatMap dC)
  len : l.length ≤ 64
theorem PRep.keep {w w' : World} {b rb : Nat} {l : List TR} {S : Nat → Prop} (h : PRep w b rb l) (f : Fr S w w') (h1 : ¬ S b) (h2 : ¬ S rb) : PRep w' b rb l := ⟨h.ne, h.hd.keep f h1, h.rows.keep f h2, h.len⟩
theorem DRep.keep {w w' : World} {b rb : Nat} {l : List TR} {S : Nat → Prop} (h : DRep w b rb l) (f : Fr S w w') (h1 : ¬ S b) (h2 : ¬ S rb) : DRep w' b rb l := ⟨h.ne, h.hd.keep f h1, h.rows.keep f h2, h.len⟩
theorem PRep.new {w w' : World} {b rb : Nat} {l : List TR} (h : PRep w b rb l) (f : New w w') : PRep w' b rb l := h.keep f id id
theorem DRep.new {w w' : World} {b rb : Nat} {l : List TR} (h : DRep w b rb l) (f : New w w') : DRep w' b rb l := h.keep f id id

/-- Every place that is taken has an id of its own place; every other one has none. -/
def Placed (l : List TR) : Prop := ∀ p r, l[p]? = some r → (r.taken = true → r.id = p + 64 * r.times ∧ 1 ≤ r.times ∧ r.times < 1000000) ∧ (r.taken = false → r.id = 0)
def Times (l : List TR) (j : Nat) : Prop := ∀ r ∈ l, r.times ≤ j

/-- Who has an id. -/
def rowAt (l : List TR) (h : Nat) : Option TR := (l[h % 64]?).bind fun r => if r.taken = true ∧ r.id = h then some r else none
theorem rowAt_some {l : List TR} {h : Nat} {r : TR} (e : rowAt l h = some r) : l[h % 64]? = some r ∧ r.taken = true ∧ r.id = h := by
  unfold rowAt at e
  cases hx : l[h % 64]? with
  | none => rw [hx] at e; cases e
  | some x =>
    rw [hx, Option.bind_some] at e
    by_cases hh : x.taken = true ∧ x.id = h
    · rw [if_pos hh] at e
      obtain rfl := Option.some.inj e
      exact ⟨rfl, hh⟩
    · rw [if_neg hh] at e; cases e
theorem rowAt_none {l : List TR} {h : Nat} (e : rowAt l h = none) : ∀ r, l[h % 64]? = some r → r.taken = true → r.id ≠ h := by
  intro r hr ht hi
  unfold rowAt at e
  rw [hr, Option.bind_some, if_pos ⟨ht, hi⟩] at e
  cases e
theorem rowAt_of {l : List TR} {p : Nat} {r : TR} (hl : Placed l) (hn : l.length ≤ 64) (hp : l[p]? = some r) (ht : r.taken = true) : rowAt l r.id = some r := by
  obtain ⟨h1, _, _⟩ := (hl p r hp).1 ht
  have hlt := (List.getElem?_eq_some_iff.1 hp).1
  unfold rowAt
  rw [show r.id % 64 = p by omega, hp, Option.bind_some, if_pos ⟨ht, rfl⟩]

/-- The first place that is free. -/
def freeAt (l : List TR) : Option Nat := l.findIdx? fun r => !r.taken
theorem free_cases (l : List TR) : (freeAt l = none ∧ ∀ r ∈ l, r.taken = true) ∨ ∃ p r, freeAt l = some p ∧ l[p]? = some r ∧ r.taken = false ∧ ∀ q r', q < p → l[q]? = some r' → r'.taken = true := by
  unfold freeAt
  cases e : l.findIdx? (fun r => !r.taken) with
  | none => exact .inl ⟨rfl, fun r hr => by have := List.findIdx?_eq_none_iff.1 e r hr; simpa using this⟩
  | some p =>
    obtain ⟨h1, h2, h3⟩ := List.findIdx?_eq_some_iff_getElem.1 e
    refine .inr ⟨p, l[p], rfl, by simp, by simpa using h2, fun q r' hq hr => ?_⟩
    have := h3 q hq
    obtain ⟨e1, e2⟩ := List.getElem?_eq_some_iff.1 hr
    rw [← e2]; simpa using this

/-- Born. -/
def bornR (r : TR) (p home : Nat) : TR := ⟨r.times + 1, true, r.reaped, p + 64 * (r.times + 1), 1, home, 0, 0, false, false⟩
def bornI (l : List TR) : Nat := match freeAt l with | some p => p + 64 * (l[p]?.elim 0 TR.times + 1) | none => 0
def bornE (l : List TR) : Option (Int × Int) := match freeAt l with | some _ => none | none => some (0, 3)
def bornL (l : List TR) (home : Nat) : List TR := match freeAt l with | some p => l.set p (bornR (l[p]?.getD noneR) p home) | none => l

/-- A call on one thread: which error, and what is left of it. -/
def onE (l : List TR) (h : Nat) (f : TR → Option (Int × Int)) : Option (Int × Int) := match rowAt l h with | some r => f r | none => some (0, 7)
def onL (l : List TR) (h : Nat) (f : TR → TR) : List TR := match rowAt l h with | some r => l.set (h % 64) (f r) | none => l
/-- Those states that live. -/
def liveS (s : Int) : Bool := s == 1 || s == 2 || s == 3
def beE (s : Int) (r : TR) : Option (Int × Int) := if liveS s = false then some (0, 1) else if r.state = 4 then some (0, 8) else none
def beR (s : Int) (r : TR) : TR := if (beE s r).isSome then r else { r with state := s }
def joinE (who : Nat) (r : TR) : Option (Int × Int) := if who = 0 then some (0, 1) else if r.joiner ≠ 0 ∨ r.loose = true then some (0, 8) else none
def joinR (who : Nat) (r : TR) : TR := if (joinE who r).isSome then r else { r with joiner := who }
def looseE (r : TR) : Option (Int × Int) := if r.joiner ≠ 0 ∨ r.loose = true then some (0, 8) else none
def looseR (r : TR) : TR := if (looseE r).isSome then r else if r.state = 4 ∧ r.stepping = false then gone r else { r with loose := true }
def endE (r : TR) : Option (Int × Int) := if r.state = 4 then some (0, 8) else none
def endR (v : Nat) (r : TR) : TR := if (endE r).isSome then r else { r with state := 4, value := v, stepping := true }
def leaveE (r : TR) : Option (Int × Int) := if r.stepping = false then some (0, 8) else none
def leaveR (r : TR) : TR := if (leaveE r).isSome then r else if r.loose = true ∨ r.reaped = true then gone r else { r with stepping := false }
def reapE (r : TR) : Option (Int × Int) := if r.state ≠ 4 ∨ r.loose = true ∨ r.reaped = true then some (0, 8) else none
def reapR (r : TR) : TR := if (reapE r).isSome then r else if r.stepping = false then gone r else { r with reaped := true }
/-- What Reap tells: value, home, whether the place is free. -/
def reapV (l : List TR) (h : Nat) : Nat × Nat × Bool := match rowAt l h with | some r => if (reapE r).isSome then (0, 0, false) else (r.value, r.home, !r.stepping) | none => (0, 0, false)
def statR (r : TR) : Int := if r.reaped = true then 0 else if r.loose = true then 2 else if r.joiner ≠ 0 then 4 else if r.state = 4 then 3 else 1
def statI (l : List TR) (h : Nat) : Int := match rowAt l h with | some r => statR r | none => 0
def lookT (l : List TR) (h : Nat) : List Value := match rowAt l h with | some r => tC r | none => tC noneR
def lookB (l : List TR) (h : Nat) : Bool := (rowAt l h).isSome
def live (l : List TR) : List TR := l.filter TR.taken

theorem on_len (l : List TR) (h : Nat) (f : TR → TR) : (onL l h f).length = l.length := by
  unfold onL
  split
  · simp
  · rfl
theorem born_len (l : List TR) (home : Nat) : (bornL l home).length = l.length := by
  unfold bornL
  split
  · simp
  · rfl
/-- What a call may do to a row: it stays what it is in its place, or it goes. -/
def Mild (f : TR → TR) : Prop := ∀ r, (f r).times = r.times ∧ (((f r).taken = r.taken ∧ (f r).id = r.id) ∨ ((f r).taken = false ∧ (f r).id = 0))
theorem mild_gone (r : TR) : (gone r).times = r.times ∧ (((gone r).taken = r.taken ∧ (gone r).id = r.id) ∨ ((gone r).taken = false ∧ (gone r).id = 0)) := ⟨rfl, .inr ⟨rfl, rfl⟩⟩
theorem mild_be (s : Int) : Mild (beR s) := by
  intro r; unfold beR
  split <;> exact ⟨rfl, .inl ⟨rfl, rfl⟩⟩
theorem mild_join (s : Nat) : Mild (joinR s) := by
  intro r; unfold joinR
  split <;> exact ⟨rfl, .inl ⟨rfl, rfl⟩⟩
theorem mild_end (v : Nat) : Mild (endR v) := by
  intro r; unfold endR
  split <;> exact ⟨rfl, .inl ⟨rfl, rfl⟩⟩
theorem mild_loose : Mild looseR := by
  intro r; unfold looseR
  split
  · exact ⟨rfl, .inl ⟨rfl, rfl⟩⟩
  · split
    · exact mild_gone r
    · exact ⟨rfl, .inl ⟨rfl, rfl⟩⟩
theorem mild_leave : Mild leaveR := by
  intro r; unfold leaveR
  split
  · exact ⟨rfl, .inl ⟨rfl, rfl⟩⟩
  · split
    · exact mild_gone r
    · exact ⟨rfl, .inl ⟨rfl, rfl⟩⟩
theorem mild_reap : Mild reapR := by
  intro r; unfold reapR
  split
  · exact ⟨rfl, .inl ⟨rfl, rfl⟩⟩
  · split
    · exact mild_gone r
    · exact ⟨rfl, .inl ⟨rfl, rfl⟩⟩
theorem Placed.on {l : List TR} (h : Placed l) (u : Nat) {f : TR → TR} (hf : Mild f) : Placed (onL l u f) := by
  unfold onL
  cases e : rowAt l u with
  | none => exact h
  | some r =>
    obtain ⟨h1, h2, h3⟩ := rowAt_some e
    intro p x hx
    by_cases hp : u % 64 = p
    · subst hp
      obtain rfl : f r = x := by
        have hlt := (List.getElem?_eq_some_iff.1 h1).1
        simpa [List.getElem?_set_self hlt] using hx
      obtain ⟨m1, m2⟩ := hf r
      rcases m2 with ⟨m2, m3⟩ | ⟨m2, m3⟩
      · rw [m1, m2, m3]; exact h _ _ h1
      · rw [m2, m3]; exact ⟨fun k => (by cases k), fun _ => rfl⟩
    · rw [List.getElem?_set_ne hp] at hx
      exact h p x hx
theorem Times.on {l : List TR} {j : Nat} (h : Times l j) (u : Nat) {f : TR → TR} (hf : Mild f) : Times (onL l u f) j := by
  unfold onL
  cases e : rowAt l u with
  | none => exact h
  | some r =>
    obtain ⟨h1, h2, h3⟩ := rowAt_some e
    intro x hx
    rcases List.mem_or_eq_of_mem_set hx with hx | rfl
    · exact h x hx
    · rw [(hf r).1]; exact h r (List.mem_of_getElem? h1)
theorem Placed.born {l : List TR} {j : Nat} (h : Placed l) (ht : Times l j) (hj : j < 999999) (home : Nat) : Placed (bornL l home) := by
  unfold bornL
  rcases free_cases l with ⟨h1, _⟩ | ⟨p, r, h1, h2, h3, _⟩
  · rw [h1]; exact h
  · simp only [h1, h2, Option.getD_some]
    have := ht r (List.mem_of_getElem? h2)
    intro q x hx
    by_cases hp : p = q
    · subst hp
      obtain rfl : bornR r p home = x := by
        have hlt := (List.getElem?_eq_some_iff.1 h2).1
        simpa [List.getElem?_set_self hlt] using hx
      refine ⟨fun _ => ⟨rfl, ?_, ?_⟩, fun k => by cases k⟩
      · show 1 ≤ r.times + 1; omega
      · show r.times + 1 < _; omega
    · rw [List.getElem?_set_ne hp] at hx
      exact h q x hx
theorem Times.born {l : List TR} {j : Nat} (h : Times l j) (home : Nat) : Times (bornL l home) (j + 1) := by
  unfold bornL
  rcases free_cases l with ⟨h1, _⟩ | ⟨p, r, h1, h2, h3, _⟩
  · rw [h1]; exact fun r hr => Nat.le_succ_of_le (h r hr)
  · simp only [h1, h2, Option.getD_some]
    intro x hx
    rcases List.mem_or_eq_of_mem_set hx with hx | rfl
    · exact Nat.le_succ_of_le (h x hx)
    · exact Nat.succ_le_succ (h r (List.mem_of_getElem? h2))
theorem Times.up {l : List TR} {j : Nat} (h : Times l j) : Times l (j + 1) := fun r hr => Nat.le_succ_of_le (h r hr)

end Go.Proofs.YtpfkfajgbaakoaaDoor
