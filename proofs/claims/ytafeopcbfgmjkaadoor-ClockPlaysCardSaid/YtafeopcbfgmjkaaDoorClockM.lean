/- Both clocks under way: what a pair of calls leaves. -/
import Derived.Test.YtafeopcbfgmjkaaDoorClockL
namespace Go.Proofs.YtafeopcbfgmjkaaDoor
open Go.RowKit

theorem offW_len (S : List Th) (u : Nat) : (offW S u).length ≤ S.length := by
  unfold offW
  cases findW S u with
  | none => exact Nat.le_refl _
  | some t => exact List.length_filter_le _ _
theorem armS_len (S : List Th) (last u d : Nat) : (armS S last u d).length ≤ S.length + 1 := by
  unfold armS
  split
  · omega
  · rw [ins_len]; omega
theorem armL_le (S : List Th) (last u d : Nat) : armL S last u d ≤ last + 1 := by
  unfold armL
  split <;> omega
theorem rest_le (S : List Th) (m : Nat) : (rest S m).length ≤ S.length := by
  unfold rest
  exact (List.dropWhile_sublist _).length_le
theorem due_le (S : List Th) (m : Nat) : (due S m).length ≤ S.length := by
  unfold due
  exact (List.takeWhile_sublist _).length_le
theorem hs_of {w : World} {hb mb last : Nat} {v : Value} {S : List Th} (h : HeapRep w hb mb v S last) : Hs S := by
  obtain ⟨L, M, h1, h2, h3, h4, h5, h6, h7, h8, _⟩ := h
  exact h8
/-- Both clocks in a world that has come from w. -/
structure PlayG (w : World) (cb hb mb bm rb : Nat) (v v2 : Value) (S S2 : List Th) (last last2 now now2 : Nat) (wr : World) : Prop where
  b : BothC wr cb hb mb bm rb v v2 S S2 last last2 now now2
  f : FreshB w.heap.size cb hb mb bm rb v v2
  n : New w wr
section
variable {w w1 w2 : World} {cb hb mb bm rb last last2 now now2 : Nat} {v v2 : Value} {S S2 : List Th}
theorem PlayG.new (h : PlayG w cb hb mb bm rb v v2 S S2 last last2 now now2 w1) (f : New w1 w2) : PlayG w cb hb mb bm rb v v2 S S2 last last2 now now2 w2 := ⟨h.b.new f, h.f, h.n.trans f⟩
theorem PlayG.prog {v' : Value} {S' : List Th} {last' now' : Nat} (h : PlayG w cb hb mb bm rb v v2 S S2 last last2 now now2 w1) (hr : ClockRep w2 cb hb mb bm v' S' last' now') (ho : ∀ k, v'.ownBlock = some k → v.ownBlock = some k ∨ w1.heap.size ≤ k) (f : Fr (cOwn cb hb mb bm v) w1 w2) :
    PlayG w cb hb mb bm rb v' v2 S' S2 last' last2 now' now2 w2 := ⟨h.b.prog hr ho f, h.f.prog ho h.n.size, newB h.n f (fun k hk => h.f k (.inl hk))⟩
theorem PlayG.doc {v' : Value} {S' : List Th} {last' now' : Nat} (h : PlayG w cb hb mb bm rb v v2 S S2 last last2 now now2 w1) (hr : DocRep w2 rb v' S' last' now') (ho : ∀ k, v'.ownBlock = some k → v2.ownBlock = some k ∨ w1.heap.size ≤ k) (f : Fr (· = rb) w1 w2) :
    PlayG w cb hb mb bm rb v v' S S' last last' now now' w2 := ⟨h.b.doc hr ho f, h.f.doc ho h.n.size, newB h.n f (fun k hk => h.f k (.inr (.inl hk)))⟩
end
/-- How far the script has come. -/
def PlayR (w : World) (cb hb mb bm rb k : Nat) (wr : World) : Prop := ∃ (v v2 : Value) (S : List Th) (last now : Nat), PlayG w cb hb mb bm rb v v2 S S last last now now wr ∧ last ≤ k ∧ S.length ≤ k ∧ now ≤ k
theorem PlayR.n {w wr : World} {cb hb mb bm rb k : Nat} (h : PlayR w cb hb mb bm rb k wr) : New w wr := by
  obtain ⟨_, _, _, _, _, h, _⟩ := h
  exact h.n
theorem nats_row {w : World} {base n : Nat} {v : Value} {xs : List Nat} (h : w.ownsRow base 25 1 v n (u64c xs)) : ∃ ao cap, v = .slice ao n cap ∧ Nats w ao xs := by
  obtain ⟨ao, cap, rfl, hc⟩ := row_form h
  refine ⟨ao, cap, rfl, fun j x hj => ?_⟩
  obtain ⟨g, rfl, _, h1, h2⟩ := hc j x hj
  exact ⟨g, 0, rfl, h1, by rw [Nat.zero_add]; exact h2⟩

end Go.Proofs.YtafeopcbfgmjkaaDoor
