/- Where somebody is. -/
import Derived.Test.YteeckkkbmlkkiaaDoorWaitH
namespace Go.Proofs.YteeckkkbmlkkiaaDoor
open Go.RowKit Go.Maps

set_option maxRecDepth 100000 in
set_option maxHeartbeats 1000000 in
theorem where_none (qb lb mb n : Nat) (L : List Sl) (u : Nat) (w : World) (h : QRep w qb lb mb n L) (hid : hasId L u = false) (hi : u < 18446744073709551616) :
    Calls Tryd.prog 13 #[.pointer (some ⟨qb, 0, none⟩), .int .u64 u] w fun e w' => e = .returned (.tuple #[.int .u64 0, .int .u64 0, .int .i64 0, .bool false]) ∧ New w w' := by
  have c1 := h.hd.cell 1 _ rfl
  have l1 := h.hd.lt
  have hlook := h.map.look1 keyInt Tryd.underlying57 (zeroP w) (wf_nat hi)
  rw [byOf_none hid, Option.getD_none] at hlook
  clear h hid
  go_enter Tryd.func13, Tryd.ntmps13
  go_wp2
  exact bodyPost_ret (v := .tuple #[.int .u64 0, .int .u64 0, .int .i64 0, .bool false]) (by simp [results, Tryd.results13, go_sem]) rfl ⟨rfl, Fr.refl _ _⟩

set_option maxRecDepth 100000 in
set_option maxHeartbeats 1000000 in
theorem where_ok (qb lb mb n : Nat) (L : List Sl) (s : Sl) (w : World) (h : QRep w qb lb mb n L) (hs : s ∈ L) :
    Calls Tryd.prog 13 #[.pointer (some ⟨qb, 0, none⟩), .int .u64 s.id] w fun e w' => e = .returned (.tuple #[.int .u64 s.addr, .int .u64 s.mask, .int .i64 (bucketN s.addr n : Nat), .bool true]) ∧ New w w' := by
  have c1 := h.hd.cell 1 _ rfl
  have l1 := h.hd.lt
  have hea := h.each s hs
  have hlook := h.map.look1 keyInt Tryd.underlying57 (zeroP w) (wf_nat hea.2.1)
  rw [byOf_of h.once hs, Option.getD_some] at hlook
  obtain ⟨p, x, hb⟩ := h.block hs
  have lb1 := lt_of_block hb
  have d1 := cell_of_block hb 1
  have d2 := cell_of_block hb 2
  rw [show (slCells s p x)[1]? = some (.int .u64 s.addr) from rfl] at d1
  rw [show (slCells s p x)[2]? = some (.int .u64 s.mask) from rfl] at d2
  have hqb := fun k => qbucket_any qb lb mb n s.addr (.map (some mb)) (w.drewN k) (h.hd.keep ((Fr.refl (fun _ => False) w).drewN k) id) h.few.1 h.few.2.1 hea.2.2.1
  have HQB := Lib.hid hqb
  generalize bucketN s.addr n = j at HQB ⊢
  clear h hb hqb
  go_enter Tryd.func13, Tryd.ntmps13
  go_wp2_with fail
  go_quiet ((go_at_call 26; exact Calls.quiet_of_same ((HQB.out _).mono fun _ _ h => ⟨h.1, h.2.symm⟩)))
  go_wp2
  exact bodyPost_ret (v := .tuple #[.int .u64 s.addr, .int .u64 s.mask, .int .i64 (j : Nat), .bool true]) (by simp [results, Tryd.results13, go_sem]) rfl ⟨rfl, (Fr.refl _ _).drewN nq⟩

end Go.Proofs.YteeckkkbmlkkiaaDoor
