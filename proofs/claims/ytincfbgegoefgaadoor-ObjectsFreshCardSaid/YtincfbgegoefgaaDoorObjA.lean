/- The object table: what each of its functions does. -/
import Derived.Test.YtincfbgegoefgaaDoorLib
import Derived.Lib.Hide
namespace Go.Proofs.YtincfbgegoefgaaDoor
open Go.RowKit

theorem tmod_neg (v n : Int) (hn : 1 ≤ n) (hv : v < 0) : -n < v.tmod n ∧ v.tmod n ≤ 0 ∧ (v.tmod n < 0 → v.tmod n + n = v % n) ∧ (0 ≤ v.tmod n → v.tmod n = v % n) := by
  have h1 := Int.emod_add_mul_ediv v n
  have h2 := Int.tmod_add_mul_tdiv v n
  have h3 : -n < v.tmod n := by
    have := Int.lt_tmod_of_pos v (show 0 < n by omega); omega
  have h4 : v.tmod n ≤ 0 := by
    have := Int.tmod_nonneg (a := -v) n (by omega); rw [Int.neg_tmod] at this; omega
  refine ⟨h3, h4, fun h => ?_, fun h => ?_⟩
  · have e : v % n = (v.tmod n + n) % n := by
      rw [Int.add_emod_right]; conv => lhs; rw [← h2]
      rw [Int.add_mul_emod_self_left]
    rw [e, Int.emod_eq_of_lt (by omega) (by omega)]
  · have e : v % n = v.tmod n % n := by
      conv => lhs; rw [← h2]
      rw [Int.add_mul_emod_self_left]
    rw [e, Int.emod_eq_of_lt (by omega) (by omega)]

set_option maxRecDepth 100000 in
set_option maxHeartbeats 400000 in
theorem within_any (v n : Int) (w : World) (hn : 1 ≤ n) (hn2 : n ≤ 1000000) (hv : -9223372036854775808 ≤ v) (hv2 : v ≤ 9223372036854775807) :
    Calls Tryd.prog 13 #[.int .i64 v, .int .i64 n] w fun e w' => e = .returned (.int .i64 (v % n)) ∧ w = w' := by
  by_cases h0 : 0 ≤ v
  · have := Int.emod_nonneg v (show n ≠ 0 by omega)
    have := Int.emod_lt_of_pos v (show 0 < n by omega)
    go_enter Tryd.func13, Tryd.ntmps13
    go_wp2
    go_ret
    exact ⟨rfl, rfl⟩
  · obtain ⟨h1, h2, h3, h4⟩ := tmod_neg v n hn (by omega)
    have H3 := Lib.hid h3
    have H4 := Lib.hid h4
    clear h3 h4
    by_cases h5 : v.tmod n < 0
    · go_enter Tryd.func13, Tryd.ntmps13
      go_wp2
      go_ret
      exact ⟨ret_int (H3.out h5), rfl⟩
    · go_enter Tryd.func13, Tryd.ntmps13
      go_wp2
      go_ret
      exact ⟨ret_int (H4.out (by omega)), rfl⟩

/-- e is the error of layer 'objects' that wraps the kind k. -/
def IsErr (w : World) (v : Value) (k : Int) : Prop :=
  ∃ b, v = .iface 72 (.pointer (some ⟨b, 0, none⟩)) ∧ w.heap[b]? = some (.cells #[.string ⟨#[111, 98, 106, 101, 99, 116, 115]⟩, .int .i64 0, .iface 30 (.int .i64 k)] 76 (0, 0))

set_option maxRecDepth 100000 in
set_option maxHeartbeats 400000 in
theorem fail_any (k : Int) (w : World) :
    Calls Tryd.prog 25 #[.iface 30 (.int .i64 k)] w fun e w' => ∃ v, e = .returned v ∧ IsErr w' v k ∧ New w w' := by
  go_enter Tryd.func25, Tryd.ntmps25
  go_wp2
  go_ret
  exact ⟨_, rfl, ⟨_, rfl, block_alloc_new _ _⟩, (Fr.refl _ _).alloc _⟩

structure Row where
  times : Nat
  handle : Nat
  kind : Int
  addr : Nat

/-- Cell j of the row. -/
def Row.cells (r : Row) : List Value := [.int .u64 r.times, .int .u64 r.handle, .int .i64 r.kind, .int .u64 r.addr]

theorem Row.len (r : Row) : r.cells.length = 4 := rfl

/-- Block b is the object, block rb its places. -/
structure ObjRep (w : World) (b rb : Nat) (l : List Row) : Prop where
  ne : b ≠ rb
  hd : Arr w b [.slice (some ⟨rb, 0, none⟩) l.length l.length]
  rows : Arr w rb (l.flatMap Row.cells)
  len : l.length ≤ 64
  small : ∀ r ∈ l, r.times < 1000000

theorem ObjRep.keep {w w' : World} {b rb : Nat} {l : List Row} {S : Nat → Prop} (h : ObjRep w b rb l) (f : Fr S w w') (h1 : ¬ S b) (h2 : ¬ S rb) : ObjRep w' b rb l :=
  ⟨h.ne, h.hd.keep f h1, h.rows.keep f h2, h.len, h.small⟩

theorem make_rep {b rb : Nat} {l : List Row} {k : Int} {a : Nat} {q : Nat} {r : Row} {w : World} (hr : ObjRep w b rb l) (hp : l[q]? = some r) (x y : Int)
    (hx : x = (q + 1 + 64 * r.times : Nat)) (hy : y = (r.times + 1 : Nat)) (ht : r.times < 1000000 - 1) :
    ObjRep ((((w.setCell ⟨rb, q * 4 + 1, none⟩ (.int .u64 x)).setCell ⟨rb, q * 4 + 2, none⟩ (.int .i64 k)).setCell ⟨rb, q * 4 + 3, none⟩ (.int .u64 a)).setCell ⟨rb, q * 4, none⟩ (.int .u64 y))
      b rb (l.set q ⟨r.times + 1, q + 1 + 64 * r.times, k, a⟩) := by
  subst hx; subst hy
  have hne : rb ≠ b := fun e => hr.ne e.symm
  have c0 := hr.rows.row Row.len hp 0 _ rfl
  have c1 := hr.rows.row Row.len hp 1 _ rfl
  have c2 := hr.rows.row Row.len hp 2 _ rfl
  have c3 := hr.rows.row Row.len hp 3 _ rfl
  rw [Nat.add_zero] at c0
  refine ⟨hr.ne, ?_, hr.rows.put Row.len q _ ?_ ?_ (by simpa using hr.rows.lt) (by simpa using hr.rows.free), by simpa using hr.len, ?_⟩
  · simp only [List.length_set]
    exact (((hr.hd.setNe hne _).setNe hne _).setNe hne _).setNe hne _
  · intro j v hv
    match j, hv with
    | 0, hv => cases hv; exact cell_set_eq (u := .int .u64 r.times) _ (by rw [cell_set_ne _ (by omega), cell_set_ne _ (by omega), cell_set_ne _ (by omega)]; exact c0)
    | 1, hv => cases hv; rw [cell_set_ne _ (by omega), cell_set_ne _ (by omega), cell_set_ne _ (by omega)]; exact cell_set_eq _ c1
    | 2, hv => cases hv; rw [cell_set_ne _ (by omega), cell_set_ne _ (by omega)]; exact cell_set_eq (u := .int .i64 r.kind) _ (by rw [cell_set_ne _ (by omega)]; exact c2)
    | 3, hv => cases hv; rw [cell_set_ne _ (by omega)]; exact cell_set_eq (u := .int .u64 r.addr) _ (by rw [cell_set_ne _ (by omega), cell_set_ne _ (by omega)]; exact c3)
    | j + 4, hv => simp [Row.cells] at hv
  · intro o ho
    rw [cell_set_ne _ (by omega), cell_set_ne _ (by omega), cell_set_ne _ (by omega), cell_set_ne _ (by omega)]
  · intro x hx
    rcases List.mem_or_eq_of_mem_set hx with h | rfl
    · exact hr.small x h
    · show r.times + 1 < _; omega

theorem make_fr (w : World) (rb o1 o2 o3 o4 : Nat) (v1 v2 v3 v4 : Value) :
    Fr (· = rb) w ((((w.setCell ⟨rb, o1, none⟩ v1).setCell ⟨rb, o2, none⟩ v2).setCell ⟨rb, o3, none⟩ v3).setCell ⟨rb, o4, none⟩ v4) := by
  repeat (first | exact Fr.refl _ _ | refine Fr.setCell (S := (· = rb)) ?_ (fun _ => by rfl) _)

set_option maxRecDepth 100000 in
set_option maxHeartbeats 400000 in
theorem make_ok (b rb : Nat) (l : List Row) (k : Int) (a : Nat) (p : Nat) (r : Row) (w : World) (hr : ObjRep w b rb l) (h1 : 1 ≤ k) (h2 : k ≤ 6)
    (hp : l[p]? = some r) (ht : r.times < 999999) (h0 : r.handle = 0) (hq : ∀ q r', q < p → l[q]? = some r' → r'.handle ≠ 0) :
    Calls Tryd.prog 11 #[.pointer (some ⟨b, 0, none⟩), .int .i64 k, .int .u64 a] w fun e w' => e = .returned (.tuple #[.int .u64 (p + 1 + 64 * r.times : Nat), .nilIface]) ∧
      ObjRep w' b rb (l.set p ⟨r.times + 1, p + 1 + 64 * r.times, k, a⟩) ∧ Fr (· = rb) w w' := by
  have hc := hr.hd.cell 0 _ rfl
  have hn := hr.len
  have hpl : p < l.length := (List.getElem?_eq_some_iff.1 hp).1
  go_enter Tryd.func11, Tryd.ntmps11
  go_wp2
  go_loop [23] (fun i => ∃ q : Nat, q ≤ p ∧ i = .int .i64 q) (fun i => l.length - (intOf i).toNat)
  case atStart => exact ⟨0, by omega, rfl⟩
  case round =>
  obtain ⟨q, hqp, rfl⟩ := hrel
  obtain ⟨r', hr'⟩ : ∃ r', l[q]? = some r' := ⟨l[q]'(by omega), by simp⟩
  have c0 := hr.rows.row Row.len hr' 0 _ rfl
  rw [Nat.add_zero] at c0
  have c1 := hr.rows.row Row.len hr' 1 _ rfl
  by_cases hlt : q < p
  · have hne : ((r'.handle : Int) != 0) = true := by have := hq q r' hlt hr'; simpa using this
    clear hr'
    go_wp2
    go_round
    case rel => exact ⟨q + 1, by omega, by go_num⟩
    case measure => simp [intOf]; omega
  · obtain rfl : q = p := by omega
    obtain rfl : r = r' := by rw [hp] at hr'; injection hr'
    have hne : ((r.handle : Int) != 0) = false := by simp [h0]
    have c2 := hr.rows.row Row.len hp 2 _ rfl
    have c3 := hr.rows.row Row.len hp 3 _ rfl
    have fz := hr.rows.free
    clear hr'
    have HP := Lib.hid hp
    have HQ := Lib.hid hq
    clear hp hq
    go_wp2
    go_ret2
    have hx : (q : Int) + 1 + 64 * r.times = (q + 1 + 64 * r.times : Nat) := by omega
    refine ⟨congrArg (fun x => Ending.returned (.tuple #[.int .u64 x, .nilIface])) hx, make_rep hr HP.out _ _ hx (by omega) (by omega), make_fr _ _ _ _ _ _ _ _ _ _⟩

end Go.Proofs.YtincfbgegoefgaaDoor
