/- A clock and the document's clock, side by side. -/
import Derived.Test.YtafeopcbfgmjkaaDoorClockJ
namespace Go.Proofs.YtafeopcbfgmjkaaDoor
open Go.RowKit

structure BothC (w : World) (cb hb mb bm rb : Nat) (v v2 : Value) (S S2 : List Th) (last last2 now now2 : Nat) : Prop where
  c : ClockRep w cb hb mb bm v S last now
  d : DocRep w rb v2 S2 last2 now2
  ap : ∀ k, cOwn cb hb mb bm v k → ¬ dOwn rb v2 k
def FreshB (m cb hb mb bm rb : Nat) (v v2 : Value) : Prop := ∀ k, cOwn cb hb mb bm v k ∨ dOwn rb v2 k → m ≤ k
section
variable {w w' : World} {m cb hb mb bm rb last last2 now now2 : Nat} {v v2 : Value} {S S2 : List Th}
theorem BothC.new (h : BothC w cb hb mb bm rb v v2 S S2 last last2 now now2) (f : New w w') : BothC w' cb hb mb bm rb v v2 S S2 last last2 now now2 := ⟨h.c.new f, h.d.new f, h.ap⟩
theorem cOwn_turn {v' : Value} {B : Nat} (ho : ∀ k, v'.ownBlock = some k → v.ownBlock = some k ∨ B ≤ k) {k : Nat} (hk : cOwn cb hb mb bm v' k) : cOwn cb hb mb bm v k ∨ B ≤ k := by
  rcases hk with h | h | h | h | h
  · exact .inl (.inl h)
  · exact .inl (.inr (.inl h))
  · exact .inl (.inr (.inr (.inl h)))
  · exact .inl (.inr (.inr (.inr (.inl h))))
  · rcases ho k h with h | h
    · exact .inl (.inr (.inr (.inr (.inr h))))
    · exact .inr h
theorem BothC.prog {v' : Value} {S' : List Th} {last' now' : Nat} (h : BothC w cb hb mb bm rb v v2 S S2 last last2 now now2) (hr : ClockRep w' cb hb mb bm v' S' last' now') (ho : ∀ k, v'.ownBlock = some k → v.ownBlock = some k ∨ w.heap.size ≤ k) (f : Fr (cOwn cb hb mb bm v) w w') :
    BothC w' cb hb mb bm rb v' v2 S' S2 last' last2 now' now2 :=
  ⟨hr, h.d.keep f (fun k hk hc => h.ap k hc hk), fun k hk hd => by
    rcases cOwn_turn ho hk with h1 | h1
    · exact h.ap k h1 hd
    · have := h.d.lt hd; omega⟩
theorem BothC.doc {v' : Value} {S' : List Th} {last' now' : Nat} (h : BothC w cb hb mb bm rb v v2 S S2 last last2 now now2) (hr : DocRep w' rb v' S' last' now') (ho : ∀ k, v'.ownBlock = some k → v2.ownBlock = some k ∨ w.heap.size ≤ k) (f : Fr (· = rb) w w') :
    BothC w' cb hb mb bm rb v v' S S' last last' now now' :=
  ⟨h.c.keep f (fun k hk hc => h.ap k hk (.inl hc)), hr, fun k hk hd => by
    rcases hd with hd | hd
    · exact h.ap k hk (.inl hd)
    · rcases ho k hd with h1 | h1
      · exact h.ap k hk (.inr h1)
      · have := h.c.lt hk; omega⟩
theorem FreshB.prog {v' : Value} {B : Nat} (h : FreshB m cb hb mb bm rb v v2) (ho : ∀ k, v'.ownBlock = some k → v.ownBlock = some k ∨ B ≤ k) (hB : m ≤ B) : FreshB m cb hb mb bm rb v' v2 := fun k hk => by
  rcases hk with hk | hk
  · rcases cOwn_turn ho hk with h1 | h1
    · exact h k (.inl h1)
    · omega
  · exact h k (.inr hk)
theorem FreshB.doc {v' : Value} {B : Nat} (h : FreshB m cb hb mb bm rb v v2) (ho : ∀ k, v'.ownBlock = some k → v2.ownBlock = some k ∨ B ≤ k) (hB : m ≤ B) : FreshB m cb hb mb bm rb v v' := fun k hk => by
  rcases hk with hk | hk | hk
  · exact h k (.inl hk)
  · exact h k (.inr (.inl hk))
  · rcases ho k hk with h1 | h1
    · exact h k (.inr (.inr h1))
    · omega
theorem newB {w0 w1 : World} (h : New w0 w1) {T : Nat → Prop} (f : Fr T w1 w') (hT : ∀ k, T k → w0.heap.size ≤ k) : New w0 w' :=
  h.then f (fun i hi e => by have := hT i e; omega)
end

end Go.Proofs.YtafeopcbfgmjkaaDoor
