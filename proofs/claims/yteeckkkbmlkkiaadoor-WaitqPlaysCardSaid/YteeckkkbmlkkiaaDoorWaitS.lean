/- The program's queues and the document's, side by side; one answer a call. -/
import Derived.Test.YteeckkkbmlkkiaaDoorWaitR
import Derived.Test.YteeckkkbmlkkiaaDoorWordsS
namespace Go.Proofs.YteeckkkbmlkkiaaDoor
open Go.RowKit

structure BothQ (w : World) (qb lb mb rb n : Nat) (v : Value) (L L2 : List Sl) : Prop where
  q : QRep w qb lb mb n L
  d : DocQ w rb v L2 n
  ap : ∀ k, qOwn qb lb mb L k → ¬ dOwn rb v k
def FreshQ (m qb lb mb rb : Nat) (v : Value) (L : List Sl) : Prop := ∀ k, qOwn qb lb mb L k ∨ dOwn rb v k → m ≤ k
/-- What a call may leave: the queues' blocks are those of before, or new. -/
def Grows (m qb lb mb : Nat) (L L' : List Sl) : Prop := ∀ k, qOwn qb lb mb L' k → qOwn qb lb mb L k ∨ m ≤ k
theorem Grows.refl {m qb lb mb : Nat} {L : List Sl} : Grows m qb lb mb L L := fun _ h => .inl h
theorem Grows.sub {m qb lb mb : Nat} {L L' : List Sl} (h : ∀ s ∈ L', ∃ t ∈ L, t.blk = s.blk) : Grows m qb lb mb L L' := fun k hk => by
  rcases hk with hk | hk | hk | ⟨s, hs, rfl⟩
  · exact .inl (.inl hk)
  · exact .inl (.inr (.inl hk))
  · exact .inl (.inr (.inr (.inl hk)))
  · obtain ⟨t, ht, e⟩ := h s hs
    exact .inl (.inr (.inr (.inr ⟨t, ht, e⟩)))
theorem Grows.snoc {m qb lb mb : Nat} {L : List Sl} {s : Sl} (h : m ≤ s.blk) : Grows m qb lb mb L (L ++ [s]) := fun k hk => by
  rcases hk with hk | hk | hk | ⟨x, hx, rfl⟩
  · exact .inl (.inl hk)
  · exact .inl (.inr (.inl hk))
  · exact .inl (.inr (.inr (.inl hk)))
  · rcases List.mem_append.1 hx with hx | hx
    · exact .inl (.inr (.inr (.inr ⟨x, hx, rfl⟩)))
    · obtain rfl : x = s := by simpa using hx
      exact .inr h
theorem without_sub {L : List Sl} {u : Nat} : ∀ s ∈ without L u, ∃ t ∈ L, t.blk = s.blk := fun s hs => ⟨s, (List.mem_filter.1 hs).1, rfl⟩
theorem find_mem {L : List Sl} {p : Sl → Bool} {s : Sl} (h : L.find? p = some s) : s ∈ L := List.mem_of_find?_eq_some h

section
variable {w w' : World} {qb lb mb rb n : Nat} {v : Value} {L L' L2 : List Sl}
theorem BothQ.new (h : BothQ w qb lb mb rb n v L L2) (f : New w w') : BothQ w' qb lb mb rb n v L L2 := ⟨h.q.new f, h.d.new f, h.ap⟩
theorem BothQ.prog (h : BothQ w qb lb mb rb n v L L2) (hr : QRep w' qb lb mb n L') (ho : Grows w.heap.size qb lb mb L L') (f : Fr (qOwn qb lb mb L) w w') : BothQ w' qb lb mb rb n v L' L2 :=
  ⟨hr, h.d.keep f (fun k hk hc => h.ap k hc hk), fun k hk hd => by
    rcases ho k hk with h1 | h1
    · exact h.ap k h1 hd
    · have := h.d.lt hd; omega⟩
theorem BothQ.doc {v' : Value} {L3 : List Sl} (h : BothQ w qb lb mb rb n v L L2) (hr : DocQ w' rb v' L3 n) (ho : ∀ k, v'.ownBlock = some k → v.ownBlock = some k ∨ w.heap.size ≤ k) (f : Fr (· = rb) w w') : BothQ w' qb lb mb rb n v' L L3 :=
  ⟨h.q.keep f (fun k hk hc => h.ap k hk (.inl hc)), hr, fun k hk hd => by
    rcases hd with hd | hd
    · exact h.ap k hk (.inl hd)
    · rcases ho k hd with h1 | h1
      · exact h.ap k hk (.inr h1)
      · have := h.q.lt hk; omega⟩
theorem FreshQ.prog {m B : Nat} (h : FreshQ m qb lb mb rb v L) (ho : Grows B qb lb mb L L') (hB : m ≤ B) : FreshQ m qb lb mb rb v L' := fun k hk => by
  rcases hk with hk | hk
  · rcases ho k hk with h1 | h1
    · exact h k (.inl h1)
    · omega
  · exact h k (.inr hk)
theorem FreshQ.doc {m B : Nat} {v' : Value} (h : FreshQ m qb lb mb rb v L) (ho : ∀ k, v'.ownBlock = some k → v.ownBlock = some k ∨ B ≤ k) (hB : m ≤ B) : FreshQ m qb lb mb rb v' L := fun k hk => by
  rcases hk with hk | hk | hk
  · exact h k (.inl hk)
  · exact h k (.inr (.inl hk))
  · rcases ho k hk with h1 | h1
    · exact h k (.inr (.inr h1))
    · omega

theorem qOwn_new {m : Nat} (f : New w w') : Fr (qOwn qb lb mb L) w w' := f.mono (fun _ _ h => h.elim)

theorem pput_any (h : QRep w qb lb mb n L) {u a m : Nat} (hi : u < 18446744073709551616) (ha : a < 18446744073709551616) (hm : m < 18446744073709551616) (hl : L.length < 1000000) :
    Calls Tryd.prog 15 #[.pointer (some ⟨qb, 0, none⟩), .int .u64 u, .int .u64 a, .int .u64 m] w fun e w' => ∃ x blk, e = .returned x ∧ Says w' waitL x (putErr L u) ∧ QRep w' qb lb mb n (putQ L u a m blk) ∧ Grows w.heap.size qb lb mb L (putQ L u a m blk) ∧ Fr (qOwn qb lb mb L) w w' := by
  by_cases he : putErr L u = none
  · have h0 : u ≠ 0 ∧ hasId L u = false := by
      unfold putErr at he
      by_cases e : u = 0
      · rw [if_pos e] at he; cases he
      · rw [if_neg e] at he
        refine ⟨e, ?_⟩
        rw [Bool.eq_false_iff]
        intro e2; rw [if_pos e2] at he; cases he
    refine (put_ok qb lb mb n L u a m w h h0.1 h0.2 hi ha hm hl).mono ?_
    rintro e w' ⟨rfl, blk, hb, hr, hf⟩
    refine ⟨_, blk, rfl, by rw [he]; rfl, ?_, ?_, hf⟩
    · unfold putQ; rw [he]; exact hr
    · unfold putQ; rw [he]; exact Grows.snoc hb
  · have hq : ∀ blk, putQ L u a m blk = L := fun blk => by
      unfold putQ
      cases e : putErr L u with
      | none => exact absurd e he
      | some x => rfl
    refine (put_no qb lb mb n L u a m w h hi he).mono ?_
    rintro e w' ⟨x, rfl, _, hs, hn⟩
    exact ⟨x, 0, rfl, hs, by rw [hq]; exact h.new hn, by rw [hq]; exact Grows.refl, hn.mono (fun _ _ h => h.elim)⟩

theorem ptake_any (h : QRep w qb lb mb n L) {a m : Nat} (ha : a < 18446744073709551616) (hm : m < 18446744073709551616) :
    Calls Tryd.prog 24 #[.pointer (some ⟨qb, 0, none⟩), .int .u64 a, .int .u64 m] w fun e w' => e = .returned (idV (firstOf L a m)) ∧ QRep w' qb lb mb n (takeQ L (firstOf L a m)) ∧ Grows w.heap.size qb lb mb L (takeQ L (firstOf L a m)) ∧ Fr (qOwn qb lb mb L) w w' := by
  cases hx : firstOf L a m with
  | none =>
    refine (take_none qb lb mb n L a m w h ha hm hx).mono ?_
    rintro e w' ⟨rfl, hn⟩
    exact ⟨rfl, h.new hn, Grows.refl, hn.mono (fun _ _ h => h.elim)⟩
  | some s =>
    refine (take_ok qb lb mb n L a m s w h ha hm hx).mono ?_
    rintro e w' ⟨rfl, hr, hf⟩
    exact ⟨rfl, hr, Grows.sub without_sub, hf⟩

theorem pmove_any (h : QRep w qb lb mb n L) {a b : Nat} (ha : a < 18446744073709551616) (hb : b < 18446744073709551616) :
    Calls Tryd.prog 25 #[.pointer (some ⟨qb, 0, none⟩), .int .u64 a, .int .u64 b] w fun e w' => e = .returned (idV (anyOf L a)) ∧ QRep w' qb lb mb n (moveQ L (anyOf L a) b) ∧ Grows w.heap.size qb lb mb L (moveQ L (anyOf L a) b) ∧ Fr (qOwn qb lb mb L) w w' := by
  cases hx : anyOf L a with
  | none =>
    refine (move_none qb lb mb n L a b w h ha hx).mono ?_
    rintro e w' ⟨rfl, hn⟩
    exact ⟨rfl, h.new hn, Grows.refl, hn.mono (fun _ _ h => h.elim)⟩
  | some s =>
    refine (move_ok qb lb mb n L a b s w h ha hb hx).mono ?_
    rintro e w' ⟨rfl, hr, hf⟩
    refine ⟨rfl, hr, Grows.sub fun t ht => ?_, hf⟩
    rcases List.mem_append.1 ht with ht | ht
    · exact without_sub t ht
    · obtain rfl : t = { s with addr := b } := by simpa using ht
      exact ⟨s, find_mem hx, rfl⟩

theorem pdrop_any (h : QRep w qb lb mb n L) {u : Nat} (hi : u < 18446744073709551616) :
    Calls Tryd.prog 17 #[.pointer (some ⟨qb, 0, none⟩), .int .u64 u] w fun e w' => e = .returned (.bool (hasId L u)) ∧ QRep w' qb lb mb n (without L u) ∧ Grows w.heap.size qb lb mb L (without L u) ∧ Fr (qOwn qb lb mb L) w w' := by
  cases hx : hasId L u with
  | false =>
    refine (drop_none qb lb mb n L u w h hx hi).mono ?_
    rintro e w' ⟨rfl, rfl⟩
    rw [without_none hx]
    exact ⟨rfl, h, Grows.refl, Fr.refl _ _⟩
  | true =>
    obtain ⟨s, hs, rfl⟩ := hasId_iff.1 hx
    refine (drop_ok qb lb mb n L s w h hs).mono ?_
    rintro e w' ⟨rfl, hr, hf, _⟩
    exact ⟨rfl, hr, Grows.sub without_sub, hf⟩

theorem pwhere_any (h : QRep w qb lb mb n L) {u : Nat} (hi : u < 18446744073709551616) :
    Calls Tryd.prog 13 #[.pointer (some ⟨qb, 0, none⟩), .int .u64 u] w fun e w' => e = .returned (whereV n (L.find? fun s => s.id == u)) ∧ New w w' := by
  cases hx : hasId L u with
  | false =>
    refine (where_none qb lb mb n L u w h hx hi).mono ?_
    rintro e w' ⟨rfl, hn⟩
    have : L.find? (fun s => s.id == u) = none := by
      rw [hasId_find] at hx
      cases e : L.find? (fun s => s.id == u) with
      | none => rfl
      | some t => rw [e] at hx; cases hx
    exact ⟨by rw [this]; rfl, hn⟩
  | true =>
    obtain ⟨s, hs, rfl⟩ := hasId_iff.1 hx
    refine (where_ok qb lb mb n L s w h hs).mono ?_
    rintro e w' ⟨rfl, hn⟩
    exact ⟨by rw [once_id h.once hs]; rfl, hn⟩
end

end Go.Proofs.YteeckkkbmlkkiaaDoor
