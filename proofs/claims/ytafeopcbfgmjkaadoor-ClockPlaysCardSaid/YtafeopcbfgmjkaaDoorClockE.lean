/- A clock: somebody's deadline, on the program's side. -/
import Derived.Test.YtafeopcbfgmjkaaDoorClockD
namespace Go.Proofs.YtafeopcbfgmjkaaDoor
open Go.RowKit Go.Maps

set_option maxRecDepth 100000 in
set_option maxHeartbeats 1000000 in
theorem deadline_no (cb hb mb bm : Nat) (v : Value) (S : List Th) (last now u : Nat) (w : World) (h : ClockRep w cb hb mb bm v S last now) (hub : u < 18446744073709551616) (hno : hasW S u = false) :
    Calls Tryd.prog 15 #[.pointer (some ⟨cb, 0, none⟩), .int .u64 u] w fun e w' => e = .returned (.tuple #[.int .u64 0, .bool false]) ∧ New w w' := by
  have c2 := cell_of_block h.hd 2
  have l1 := lt_of_block h.hd
  rw [show (#[Value.int .u64 now, .pointer (some ⟨hb, 0, none⟩), .map (some bm)] : Array Value)[2]? = some (.map (some bm)) from rfl] at c2
  have hlook := h.map.look2 keyU Tryd.underlying57 (zeroA w) (wf_u64 hub)
  rw [byC_none hno] at hlook
  clear h hno
  go_enter Tryd.func15, Tryd.ntmps15
  go_wp2
  go_ret2
  exact ⟨rfl, (Fr.refl _ _).alloc _⟩
set_option maxRecDepth 100000 in
set_option maxHeartbeats 1000000 in
theorem deadline_ok (cb hb mb bm : Nat) (v : Value) (S : List Th) (last now : Nat) (t : Th) (w : World) (h : ClockRep w cb hb mb bm v S last now) (ht : t ∈ S) :
    Calls Tryd.prog 15 #[.pointer (some ⟨cb, 0, none⟩), .int .u64 t.what] w fun e w' => e = .returned (.tuple #[.int .u64 t.d, .bool true]) ∧ New w w' := by
  have c2 := cell_of_block h.hd 2
  have l1 := lt_of_block h.hd
  rw [show (#[Value.int .u64 now, .pointer (some ⟨hb, 0, none⟩), .map (some bm)] : Array Value)[2]? = some (.map (some bm)) from rfl] at c2
  have hft := rep_fit h t ht
  have hlook := h.map.look2 keyU Tryd.underlying57 (zeroA w) (wf_u64 (x := t.what) (by omega))
  rw [byC_of h.once ht, Option.getD_some, show armV t = .agg #[.int .i64 t.h, .int .u64 t.d] from rfl] at hlook
  clear h
  go_enter Tryd.func15, Tryd.ntmps15
  go_wp2
  go_ret2
  exact ⟨rfl, (Fr.refl _ _).alloc _⟩

end Go.Proofs.YtafeopcbfgmjkaaDoor
