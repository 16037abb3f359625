/- The queues: being moved; the document's example. -/
import Derived.Test.YteeckkkbmlkkiaaDoorWaitC
namespace Go.Proofs.YteeckkkbmlkkiaaDoor
open Go.RowKit Go.Maps

/-- The first on an address. -/
def anyOf (L : List Sl) (a : Nat) : Option Sl := L.find? (fitsB a 0 true)
theorem anyOf_mem {L : List Sl} {a : Nat} {s : Sl} (h : anyOf L a = some s) : s ∈ L := List.mem_of_find?_eq_some h

set_option maxRecDepth 100000 in
set_option maxHeartbeats 1000000 in
theorem move_none (qb lb mb n : Nat) (L : List Sl) (a b : Nat) (w : World) (h : QRep w qb lb mb n L) (ha : a < 18446744073709551616) (hx : anyOf L a = none) :
    Calls Tryd.prog 25 #[.pointer (some ⟨qb, 0, none⟩), .int .u64 a, .int .u64 b] w fun e w' => e = .returned (.tuple #[.int .u64 0, .bool false]) ∧ New w w' := by
  have hF := first_any qb lb mb n L a 0 true w h ha (by omega)
  rw [find_inB, show L.find? (fitsB a 0 true) = anyOf L a from rfl, hx, show ptrO none = .pointer none from rfl, show (((0 : Nat)) : Int) = 0 from rfl] at hF
  have l1 := h.hd.lt
  have HF := Lib.hid hF
  clear hF h hx
  go_enter Tryd.func25, Tryd.ntmps25
  go_wp2_with fail
  refine HF.out.mono ?_
  rintro e w1 ⟨rfl, hn⟩
  have HN := Lib.hid hn
  clear hn
  go_wp2
  go_ret2
  exact ⟨rfl, HN.out⟩

set_option maxRecDepth 100000 in
set_option maxHeartbeats 2000000 in
theorem move_ok (qb lb mb n : Nat) (L : List Sl) (a b : Nat) (s : Sl) (w : World) (h : QRep w qb lb mb n L) (ha : a < 18446744073709551616) (hb : b < 18446744073709551616) (hx : anyOf L a = some s) :
    Calls Tryd.prog 25 #[.pointer (some ⟨qb, 0, none⟩), .int .u64 a, .int .u64 b] w fun e w' => e = .returned (.tuple #[.int .u64 s.id, .bool true]) ∧ QRep w' qb lb mb n (without L s.id ++ [{ s with addr := b }]) ∧ Fr (qOwn qb lb mb L) w w' := by
  have hF := first_any qb lb mb n L a 0 true w h ha (by omega)
  rw [find_inB, show L.find? (fitsB a 0 true) = anyOf L a from rfl, hx, show ptrO (some s) = .pointer (some ⟨s.blk, 0, none⟩) from rfl, show (((0 : Nat)) : Int) = 0 from rfl] at hF
  have l1 := h.hd.lt
  have hs := anyOf_mem hx
  have hea := h.each s hs
  have hfar := h.far
  have HF := Lib.hid hF
  have H := Lib.hid h
  clear hF h hx
  go_enter Tryd.func25, Tryd.ntmps25
  go_wp2_with fail
  refine HF.out.mono ?_
  rintro e w1 ⟨rfl, hn⟩
  have h1 := H.out.new hn
  have HN := Lib.hid hn
  have H1 := Lib.hid h1
  clear hn h1 H HF
  go_wp2_with fail
  refine (unlink_any qb lb mb n L s w1 H1.out.toQCore hs).mono ?_
  rintro e w2 ⟨rfl, hc2, hf2, hb2⟩
  obtain ⟨p, x, hbk⟩ := H1.out.block hs
  have hbk2 := hb2.trans hbk
  have d1 := cell_of_block hbk2 1
  rw [show (slCells s p x)[1]? = some (.int .u64 s.addr) from rfl] at d1
  have dz := free_of_block hbk2 1
  have ld := lt_of_block hbk2
  have hbk3 := block_setCell (o := 1) hbk2 (.int .u64 b)
  have f3 : Fr (· = s.blk) w2 (w2.setCell ⟨s.blk, 1, none⟩ (.int .u64 b)) := (Fr.refl (· = s.blk) w2).setCell (fun _ => rfl) _
  have hwa : ∀ y ∈ without L s.id, y ∈ L ∧ y.id ≠ s.id := fun y hy => by have := List.mem_filter.1 hy; exact ⟨this.1, by simpa using this.2⟩
  have hc3 := hc2.keep f3 (fun k hk _ e => by
    rcases hk with hk | hk | hk | ⟨y, hy, hk⟩
    · exact (hfar.2.2.2 s hs).1 (e.symm.trans hk)
    · exact (hfar.2.2.2 s hs).2.1 (e.symm.trans hk)
    · exact (hfar.2.2.2 s hs).2.2 (e.symm.trans hk)
    · exact (hwa y hy).2 (congrArg Sl.id (once_eq H1.out.once (hwa y hy).1 hs (.inr (hk.trans e)))))
  have hid : hasId (without L s.id) s.id = false := by rw [hasId_without]; simp
  have hbl : ∀ y ∈ without L s.id, y.blk ≠ s.blk := fun y hy e => (hwa y hy).2 (congrArg Sl.id (once_eq H1.out.once (hwa y hy).1 hs (.inr e)))
  have hlen := without_length H1.out.once (hasId_iff.2 ⟨s, hs, rfl⟩)
  have hlink := link_any qb lb mb n (without L s.id) { s with addr := b } (ptrO p) (ptrO x) _ hc3 hbk3 hid hbl (hfar.2.2.2 s hs) ⟨hea.1, hea.2.1, hb, hea.2.2.2⟩ (by have := H1.out.few; omega)
  have HL := Lib.hid hlink
  have HF2 := Lib.hid hf2
  have HLEN := Lib.hid hlen
  have HID := Lib.hid hid
  have HF3 := Lib.hid f3
  clear hlink hf2 hb2 hbk hbk2 hbk3 hc2 hc3 f3 hlen hid hbl
  go_wp2_with fail
  refine HL.out.mono ?_
  rintro e w4 ⟨rfl, hc4, hf4⟩
  obtain ⟨p4, x4, hbk4⟩ := hc4.block (s := { s with addr := b }) (List.mem_append_right _ (List.mem_singleton.2 rfl))
  have hbk5 : w4.heap[s.blk]? = some (.cells (slCells { s with addr := b } p4 x4) 75 (0, 0)) := hbk4
  have g0 : w4.cell? ⟨s.blk, 0, none⟩ = some (.int .u64 s.id) := cell_of_block hbk5 0
  have l4 := lt_of_block hbk5
  have HC4 := Lib.hid hc4
  have HF4 := Lib.hid hf4
  clear hc4 hf4 hbk4 hbk5 d1 dz HL
  go_wp2
  go_ret2
  have hm2 := H1.out.map.keep HF2.out (fun hk => by
    rcases hk with hk | ⟨y, hy, hk⟩
    · exact hfar.2.2.1 hk
    · exact (hfar.2.2.2 y hy).2.2 hk)
  have hm3 := hm2.keep HF3.out (fun hk => (hfar.2.2.2 s hs).2.2 (Eq.symm hk))
  have hm4 := hm3.keep HF4.out (fun hk => by
    rcases hk with hk | hk | ⟨y, hy, hk⟩
    · exact hfar.2.2.1 hk
    · exact (hfar.2.2.2 s hs).2.2 (Eq.symm hk)
    · exact (hfar.2.2.2 y (hwa y hy).1).2.2 hk)
  refine ⟨rfl, ⟨HC4.out, ?_⟩, (HN.out.mono (fun _ _ h => h.elim)).trans ((HF2.out.mono (fun k _ hk => ?_)).trans ((HF3.out.mono (fun k _ hk => .inr (.inr (.inr ⟨s, hs, Eq.symm hk⟩)))).trans (HF4.out.mono (fun k _ hk => ?_))))⟩
  · have e : (without L s.id ++ [{ s with addr := b }]).length = L.length := by rw [List.length_append]; exact HLEN.out
    rw [e]
    refine hm4.congr (fun y _ => ?_)
    refine (byOf_snoc (without L s.id) { s with addr := b } HID.out y).trans ?_
    rw [byOf_without]
    show (if y = (s.id : Int) then some (Value.pointer (some ⟨s.blk, 0, none⟩)) else if y = (s.id : Int) then none else byOf L y) = byOf L y
    by_cases e : y = (s.id : Int)
    · rw [if_pos e, e, byOf_of H1.out.once hs]
    · rw [if_neg e, if_neg e]
  · rcases hk with hk | hk
    · exact .inr (.inl hk)
    · exact .inr (.inr (.inr hk))
  · rcases hk with hk | hk | ⟨y, hy, hk⟩
    · exact .inr (.inl hk)
    · exact .inr (.inr (.inr ⟨s, hs, hk.symm⟩))
    · exact .inr (.inr (.inr ⟨y, (hwa y hy).1, hk⟩))

end Go.Proofs.YteeckkkbmlkkiaaDoor
