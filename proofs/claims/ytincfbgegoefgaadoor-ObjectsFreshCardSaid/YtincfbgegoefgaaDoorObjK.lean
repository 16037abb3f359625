/- Finding a handle, and asking for its kind. -/
import Derived.Test.YtincfbgegoefgaaDoorObjB
namespace Go.Proofs.YtincfbgegoefgaaDoor
open Go.RowKit

set_option maxRecDepth 100000 in
set_option maxHeartbeats 400000 in
theorem find_none (b rb : Nat) (l : List Row) (h : Nat) (k : Int) (w : World) (hr : ObjRep w b rb l) (hh : h < 18446744073709551616) (hp : NoHandle l h) :
    Calls Tryd.prog 16 #[.pointer (some ⟨b, 0, none⟩), .int .u64 h, .int .i64 k] w fun e w' => ∃ v, e = .returned (.tuple #[.int .u64 0, v]) ∧ IsErr w' v 7 ∧ New w w' := by
  go_enter Tryd.func16, Tryd.ntmps16
  go_wp2_with (first
    | (go_at_call 29; refine (of_none b rb l h _ hr hh hp).mono ?_; rintro e w' ⟨rfl, rfl⟩)
    | (go_at_call 25; refine (fail_any _ _).mono ?_; rintro e w' ⟨v, rfl, he, hn⟩))
  go_ret2
  exact ⟨_, rfl, he, hn⟩

set_option maxRecDepth 100000 in
set_option maxHeartbeats 400000 in
theorem find_other (b rb : Nat) (l : List Row) (h : Nat) (r : Row) (k : Int) (w : World) (hr : ObjRep w b rb l) (hh : h < 18446744073709551615) (hp : l[h % 64]? = some r) (he : r.handle = h + 1) (hk : r.kind ≠ k) :
    Calls Tryd.prog 16 #[.pointer (some ⟨b, 0, none⟩), .int .u64 (h + 1), .int .i64 k] w fun e w' => ∃ v, e = .returned (.tuple #[.int .u64 0, v]) ∧ IsErr w' v 1 ∧ New w w' := by
  have c2 := hr.rows.row Row.len hp 2 _ rfl
  have hb : (r.kind != k) = true := by rw [bne_iff_ne]; exact hk
  have HP := Lib.hid hp
  have HE := Lib.hid he
  clear hp he hk
  go_enter Tryd.func16, Tryd.ntmps16
  go_wp2_with (first
    | (go_at_call 29; refine (of_found b rb l h r _ hr hh HP.out HE.out).mono ?_; rintro e w' ⟨rfl, rfl⟩)
    | (go_at_call 25; refine (fail_any _ _).mono ?_; rintro e w' ⟨v, rfl, he, hn⟩))
  go_ret2
  exact ⟨_, rfl, he, hn⟩

set_option maxRecDepth 100000 in
set_option maxHeartbeats 400000 in
theorem find_ok (b rb : Nat) (l : List Row) (h : Nat) (r : Row) (w : World) (hr : ObjRep w b rb l) (hh : h < 18446744073709551615) (hp : l[h % 64]? = some r) (he : r.handle = h + 1) :
    Calls Tryd.prog 16 #[.pointer (some ⟨b, 0, none⟩), .int .u64 (h + 1), .int .i64 r.kind] w fun e w' => e = .returned (.tuple #[.int .u64 r.addr, .nilIface]) ∧ w = w' := by
  have c2 := hr.rows.row Row.len hp 2 _ rfl
  have c3 := hr.rows.row Row.len hp 3 _ rfl
  have HP := Lib.hid hp
  have HE := Lib.hid he
  clear hp he
  go_enter Tryd.func16, Tryd.ntmps16
  go_wp2_with (go_at_call 29; refine (of_found b rb l h r _ hr hh HP.out HE.out).mono ?_; rintro e w' ⟨rfl, rfl⟩)
  go_ret2
  exact ⟨rfl, rfl⟩

set_option maxRecDepth 100000 in
set_option maxHeartbeats 400000 in
theorem okind_none (b rb : Nat) (l : List Row) (h : Nat) (w : World) (hr : ObjRep w b rb l) (hh : h < 18446744073709551616) (hp : NoHandle l h) :
    Calls Tryd.prog 20 #[.pointer (some ⟨b, 0, none⟩), .int .u64 h] w fun e w' => e = .returned (.int .i64 0) ∧ w = w' := by
  go_enter Tryd.func20, Tryd.ntmps20
  go_wp2_with (go_at_call 29; refine (of_none b rb l h _ hr hh hp).mono ?_; rintro e w' ⟨rfl, rfl⟩)
  go_ret
  exact ⟨rfl, rfl⟩

set_option maxRecDepth 100000 in
set_option maxHeartbeats 400000 in
theorem okind_ok (b rb : Nat) (l : List Row) (h : Nat) (r : Row) (w : World) (hr : ObjRep w b rb l) (hh : h < 18446744073709551615) (hp : l[h % 64]? = some r) (he : r.handle = h + 1) :
    Calls Tryd.prog 20 #[.pointer (some ⟨b, 0, none⟩), .int .u64 (h + 1)] w fun e w' => e = .returned (.int .i64 r.kind) ∧ w = w' := by
  have c2 := hr.rows.row Row.len hp 2 _ rfl
  have HP := Lib.hid hp
  have HE := Lib.hid he
  clear hp he
  go_enter Tryd.func20, Tryd.ntmps20
  go_wp2_with (go_at_call 29; refine (of_found b rb l h r _ hr hh HP.out HE.out).mono ?_; rintro e w' ⟨rfl, rfl⟩)
  go_ret
  exact ⟨rfl, rfl⟩

set_option maxRecDepth 100000 in
set_option maxHeartbeats 400000 in
theorem new_bad (n : Int) (w : World) (h : n < 1 ∨ 64 < n) :
    Calls Tryd.prog 7 #[.int .i64 n] w fun e w' => ∃ v, e = .returned (.tuple #[.pointer none, v]) ∧ IsErr w' v 1 ∧ New w w' := by
  by_cases h1 : n < 1
  · go_enter Tryd.func7, Tryd.ntmps7
    go_wp2_with (go_at_call 25; refine (fail_any _ _).mono ?_; rintro e w' ⟨v, rfl, he, hn⟩)
    go_ret2
    exact ⟨_, rfl, he, hn⟩
  · have h2 : 64 < n := by omega
    go_enter Tryd.func7, Tryd.ntmps7
    go_wp2_with (go_at_call 25; refine (fail_any _ _).mono ?_; rintro e w' ⟨v, rfl, he, hn⟩)
    go_ret2
    exact ⟨_, rfl, he, hn⟩

end Go.Proofs.YtincfbgegoefgaaDoor
