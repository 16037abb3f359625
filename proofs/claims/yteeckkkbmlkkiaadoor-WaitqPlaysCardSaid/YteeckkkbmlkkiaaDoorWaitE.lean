/- The queues: the document's example. -/
import Derived.Test.YteeckkkbmlkkiaaDoorWaitD
namespace Go.Proofs.YteeckkkbmlkkiaaDoor
open Go.RowKit Go.Maps

/-- All their blocks are new. -/
def Fresh (m qb lb mb : Nat) (L : List Sl) : Prop := ∀ k, qOwn qb lb mb L k → m ≤ k
theorem Fresh.snoc {m qb lb mb : Nat} {L : List Sl} (h : Fresh m qb lb mb L) {s : Sl} (hs : m ≤ s.blk) : Fresh m qb lb mb (L ++ [s]) := by
  rintro k (hk | hk | hk | ⟨x, hx, hk⟩)
  · exact h k (.inl hk)
  · exact h k (.inr (.inl hk))
  · exact h k (.inr (.inr (.inl hk)))
  · rcases List.mem_append.1 hx with hx | hx
    · exact h k (.inr (.inr (.inr ⟨x, hx, hk⟩)))
    · rw [← hk, List.mem_singleton.1 hx]; exact hs
theorem Fresh.without {m qb lb mb : Nat} {L : List Sl} (h : Fresh m qb lb mb L) (x : Nat) : Fresh m qb lb mb (without L x) := by
  rintro k (hk | hk | hk | ⟨y, hy, hk⟩)
  · exact h k (.inl hk)
  · exact h k (.inr (.inl hk))
  · exact h k (.inr (.inr (.inl hk)))
  · exact h k (.inr (.inr (.inr ⟨y, (List.mem_filter.1 hy).1, hk⟩)))
theorem Fresh.blk {m qb lb mb : Nat} {L : List Sl} (h : Fresh m qb lb mb L) {s : Sl} (hs : s ∈ L) : m ≤ s.blk := h _ (.inr (.inr (.inr ⟨s, hs, rfl⟩)))
theorem New.fresh {w w1 w2 : World} {qb lb mb : Nat} {L : List Sl} (h : New w w1) (f : Fr (qOwn qb lb mb L) w1 w2) (hf : Fresh w.heap.size qb lb mb L) : New w w2 :=
  h.then f (fun k hk hs => by have := hf k hs; omega)

set_option maxRecDepth 100000 in
set_option maxHeartbeats 4000000 in
theorem awake_any (w : World) : Calls Tryd.prog 9 #[] w fun e w' => e = .returned (.bool true) ∧ New w w' := by
  go_enter Tryd.func9, Tryd.ntmps9
  go_wp2_with fail
  refine (new_any 8 _ (by omega) (by omega)).mono ?_
  rintro e w1 ⟨qb, lb, mb, rfl, hfr, hr, hn1⟩
  have HR := Lib.hid hr
  have HN := Lib.hid hn1
  have HF := Lib.hid (show Fresh w.heap.size qb lb mb [] from hfr)
  clear hr hn1 hfr
  go_wp2_with fail
  refine (put_ok qb lb mb 8 [] 1 5 3 w1 HR.out (by omega) rfl (by omega) (by omega) (by omega) (by simp)).mono ?_
  rintro e w2 ⟨rfl, b1, hb1, hr2, hf2⟩
  have HN2 := Lib.hid (HN.out.fresh hf2 HF.out)
  have HF2 := Lib.hid (show Fresh w.heap.size qb lb mb [⟨1, 5, 3, b1⟩] from HF.out.snoc (Nat.le_trans HN.out.size hb1))
  have HR2 := Lib.hid (show QRep w2 qb lb mb 8 [⟨1, 5, 3, b1⟩] from hr2)
  clear hr2 hf2 HR HN HF hb1
  go_wp2_with fail
  refine (put_ok qb lb mb 8 [⟨1, 5, 3, b1⟩] 2 5 1 w2 HR2.out (by omega) rfl (by omega) (by omega) (by omega) (by simp)).mono ?_
  rintro e w3 ⟨rfl, b2, hb2, hr3, hf3⟩
  have HN3 := Lib.hid (HN2.out.fresh hf3 HF2.out)
  have HF3 := Lib.hid (show Fresh w.heap.size qb lb mb [⟨1, 5, 3, b1⟩, ⟨2, 5, 1, b2⟩] from HF2.out.snoc (Nat.le_trans HN2.out.size hb2))
  have HR3 := Lib.hid (show QRep w3 qb lb mb 8 [⟨1, 5, 3, b1⟩, ⟨2, 5, 1, b2⟩] from hr3)
  clear hr3 hf3 HR2 HN2 HF2 hb2
  go_wp2_with fail
  refine (take_ok qb lb mb 8 [⟨1, 5, 3, b1⟩, ⟨2, 5, 1, b2⟩] 5 2 ⟨1, 5, 3, b1⟩ w3 HR3.out (by omega) (by omega) (by kernel_rfl)).mono ?_
  rintro e w4 ⟨rfl, hr4, hf4⟩
  have HN4 := Lib.hid (HN3.out.fresh hf4 HF3.out)
  have HF4 := Lib.hid (show Fresh w.heap.size qb lb mb [⟨2, 5, 1, b2⟩] from HF3.out.without 1)
  have HR4 := Lib.hid (show QRep w4 qb lb mb 8 [⟨2, 5, 1, b2⟩] from hr4)
  clear hr4 hf4 HR3 HN3 HF3
  go_wp2_with fail
  refine (move_ok qb lb mb 8 [⟨2, 5, 1, b2⟩] 5 9 ⟨2, 5, 1, b2⟩ w4 HR4.out (by omega) (by omega) (by kernel_rfl)).mono ?_
  rintro e w5 ⟨rfl, hr5, hf5⟩
  have HN5 := Lib.hid (HN4.out.fresh hf5 HF4.out)
  have HF5 := Lib.hid (show Fresh w.heap.size qb lb mb [⟨2, 9, 1, b2⟩] from (HF4.out.without 2).snoc (s := ⟨2, 9, 1, b2⟩) (HF4.out.blk (s := ⟨2, 5, 1, b2⟩) (List.mem_singleton.2 rfl)))
  have HR5 := Lib.hid (show QRep w5 qb lb mb 8 [⟨2, 9, 1, b2⟩] from hr5)
  clear hr5 hf5 HR4 HN4 HF4
  go_wp2_with fail
  refine (take_none qb lb mb 8 [⟨2, 9, 1, b2⟩] 9 4 w5 HR5.out (by omega) (by omega) (by kernel_rfl)).mono ?_
  rintro e w6 ⟨rfl, hn6⟩
  have HN6 := Lib.hid (HN5.out.trans hn6)
  have HR6 := Lib.hid (HR5.out.new hn6)
  clear hn6 HR5 HN5
  go_wp2_with fail
  refine (take_ok qb lb mb 8 [⟨2, 9, 1, b2⟩] 9 1 ⟨2, 9, 1, b2⟩ w6 HR6.out (by omega) (by omega) (by kernel_rfl)).mono ?_
  rintro e w7 ⟨rfl, hr7, hf7⟩
  have HN7 := Lib.hid (New.fresh HN6.out hf7 HF5.out)
  have HR7 := Lib.hid (show QRep w7 qb lb mb 8 [] from hr7)
  clear hr7 hf7 HR6 HN6 HF5
  go_wp2_with fail
  refine (len_any qb lb mb 8 [] w7 HR7.out).mono ?_
  rintro e w8 ⟨rfl, rfl⟩
  go_wp2
  go_ret
  exact ⟨rfl, HN7.out⟩

end Go.Proofs.YteeckkkbmlkkiaaDoor
