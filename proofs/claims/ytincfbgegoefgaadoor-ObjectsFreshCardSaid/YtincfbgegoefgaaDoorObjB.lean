/- The object table: its making, a handle's place, and the going of one. -/
import Derived.Test.YtincfbgegoefgaaDoorObjA
namespace Go.Proofs.YtincfbgegoefgaaDoor
open Go.RowKit

set_option maxRecDepth 100000 in
set_option maxHeartbeats 400000 in
theorem of_zero (b : Nat) (w : World) :
    Calls Tryd.prog 29 #[.pointer (some ⟨b, 0, none⟩), .int .u64 0] w fun e w' => e = .returned (.pointer none) ∧ w = w' := by
  go_enter Tryd.func29, Tryd.ntmps29
  go_wp2
  go_ret
  exact ⟨rfl, rfl⟩

set_option maxRecDepth 100000 in
set_option maxHeartbeats 400000 in
theorem of_far (b rb : Nat) (l : List Row) (h : Nat) (w : World) (hr : ObjRep w b rb l) (hh : h < 18446744073709551615) (hp : l.length ≤ h % 64) :
    Calls Tryd.prog 29 #[.pointer (some ⟨b, 0, none⟩), .int .u64 (h + 1)] w fun e w' => e = .returned (.pointer none) ∧ w = w' := by
  have hc := hr.hd.cell 0 _ rfl
  have hn := hr.len
  go_enter Tryd.func29, Tryd.ntmps29
  go_wp2
  go_ret
  exact ⟨rfl, rfl⟩

set_option maxRecDepth 100000 in
set_option maxHeartbeats 400000 in
theorem of_other (b rb : Nat) (l : List Row) (h : Nat) (r : Row) (w : World) (hr : ObjRep w b rb l) (hh : h < 18446744073709551615) (hp : l[h % 64]? = some r) (hne : r.handle ≠ h + 1) :
    Calls Tryd.prog 29 #[.pointer (some ⟨b, 0, none⟩), .int .u64 (h + 1)] w fun e w' => e = .returned (.pointer none) ∧ w = w' := by
  have hc := hr.hd.cell 0 _ rfl
  have hn := hr.len
  have hpl : h % 64 < l.length := (List.getElem?_eq_some_iff.1 hp).1
  have c1 := hr.rows.row Row.len hp 1 _ rfl
  have hb : ((r.handle : Int) != (h : Int) + 1) = true := by rw [bne_iff_ne]; omega
  clear hp
  go_enter Tryd.func29, Tryd.ntmps29
  go_wp2
  go_ret
  exact ⟨rfl, rfl⟩

set_option maxRecDepth 100000 in
set_option maxHeartbeats 400000 in
theorem of_found (b rb : Nat) (l : List Row) (h : Nat) (r : Row) (w : World) (hr : ObjRep w b rb l) (hh : h < 18446744073709551615) (hp : l[h % 64]? = some r) (he : r.handle = h + 1) :
    Calls Tryd.prog 29 #[.pointer (some ⟨b, 0, none⟩), .int .u64 (h + 1)] w fun e w' => e = .returned (.pointer (some ⟨rb, h % 64 * 4, none⟩)) ∧ w = w' := by
  have hc := hr.hd.cell 0 _ rfl
  have hn := hr.len
  have hpl : h % 64 < l.length := (List.getElem?_eq_some_iff.1 hp).1
  have c1 := hr.rows.row Row.len hp 1 _ rfl
  have hb : ((r.handle : Int) != (h : Int) + 1) = false := by rw [bne_eq_false_iff_eq]; omega
  clear hp he
  go_enter Tryd.func29, Tryd.ntmps29
  go_wp2
  go_ret
  exact ⟨rfl, rfl⟩

theorem rowInfo : (Tryd.prog.info? 79).map (fun i => (i.zero, i.size, i.bytes)) = some (some (.agg #[.int .u64 0, .int .u64 0, .int .i64 0, .int .u64 0]), 4, 32) := by kernel_rfl

set_option maxRecDepth 100000 in
set_option maxHeartbeats 400000 in
theorem new_any (n : Nat) (w : World) (h1 : 1 ≤ n) (h2 : n ≤ 64) :
    Calls Tryd.prog 7 #[.int .i64 n] w fun e w' => ∃ b rb, e = .returned (.tuple #[.pointer (some ⟨b, 0, none⟩), .nilIface]) ∧ w.heap.size ≤ b ∧ w.heap.size ≤ rb ∧
      ObjRep w' b rb (List.replicate n ⟨0, 0, 0, 0⟩) ∧ New w w' := by
  obtain ⟨i0, hi, hz0, hz1, hz2⟩ := info_parts rowInfo
  go_enter Tryd.func7, Tryd.ntmps7
  go_wp2_with (at_make; refine wpList_make_full _ rfl (.tmp 12) (.tmp 12) 65 rfl w.heap.size 79 i0 _ 4 Tryd.underlying65 hi hz0 hz1 .i64 .i64 n n n rfl rfl rfl rfl (by rw [hz2]; omega) (by unfold maxLen; omega) (by omega) ?_; intro w1 hown hgrow)
  go_ret2
  refine ⟨_, _, rfl, hgrow.size, Nat.le_refl _, ?_, ((Fr.refl _ _).grown hgrow (fun _ h => by cases h)).alloc _⟩
  have hlt : w.heap.size < w1.heap.size := (hown.lt _ rfl).2
  have hrow := Arr.of_owns hown
  have e : (madeCells (Value.agg #[.int .u64 0, .int .u64 0, .int .i64 0, .int .u64 0]).cells (n * 4)).toList = (List.replicate n (⟨0, 0, 0, 0⟩ : Row)).flatMap Row.cells := by
    rw [← flatMap_replicate]; exact madeRows (Row.cells ⟨0, 0, 0, 0⟩) (by simp [Row.cells]) n
  rw [e] at hrow
  refine ⟨by omega, ?_, hrow.alloc _, by simp; omega, fun r hr => by rw [(List.mem_replicate.1 hr).2]; decide⟩
  rw [List.length_replicate]
  exact Arr.new _ _ _

set_option maxRecDepth 100000 in
set_option maxHeartbeats 400000 in
theorem make_full (b rb : Nat) (l : List Row) (k : Int) (a : Nat) (w : World) (hr : ObjRep w b rb l) (h1 : 1 ≤ k) (h2 : k ≤ 6)
    (hq : ∀ r ∈ l, r.handle ≠ 0) :
    Calls Tryd.prog 11 #[.pointer (some ⟨b, 0, none⟩), .int .i64 k, .int .u64 a] w fun e w' => ∃ v, e = .returned (.tuple #[.int .u64 0, v]) ∧ IsErr w' v 3 ∧ New w w' := by
  have hc := hr.hd.cell 0 _ rfl
  have hn := hr.len
  go_enter Tryd.func11, Tryd.ntmps11
  go_wp2
  go_loop [23] (fun i => ∃ q : Nat, q ≤ l.length ∧ i = .int .i64 q) (fun i => l.length - (intOf i).toNat)
  case atStart => exact ⟨0, by omega, rfl⟩
  case round =>
  obtain ⟨q, hqp, rfl⟩ := hrel
  by_cases hlt : q < l.length
  · obtain ⟨r', hr'⟩ : ∃ r', l[q]? = some r' := ⟨l[q]'(by omega), by simp⟩
    have c1 := hr.rows.row Row.len hr' 1 _ rfl
    have hne : ((r'.handle : Int) != 0) = true := by have := hq r' (List.mem_of_getElem? hr'); simpa using this
    clear hr' hq
    go_wp2
    go_round
    case rel => exact ⟨q + 1, by omega, by go_num⟩
    case measure => simp [intOf]; omega
  · clear hq
    go_wp2_with (go_at_call 25; refine (fail_any _ _).mono ?_; rintro e w' ⟨v, rfl, he, hn⟩)
    go_ret2
    exact ⟨_, rfl, he, hn⟩

set_option maxRecDepth 100000 in
set_option maxHeartbeats 400000 in
theorem make_bad (b : Nat) (k : Int) (a : Nat) (w : World) (hk : k < 1 ∨ 6 < k) :
    Calls Tryd.prog 11 #[.pointer (some ⟨b, 0, none⟩), .int .i64 k, .int .u64 a] w fun e w' => ∃ v, e = .returned (.tuple #[.int .u64 0, v]) ∧ IsErr w' v 1 ∧ New w w' := by
  by_cases h1 : k < 1
  · go_enter Tryd.func11, Tryd.ntmps11
    go_wp2_with (go_at_call 25; refine (fail_any _ _).mono ?_; rintro e w' ⟨v, rfl, he, hn⟩)
    go_ret2
    exact ⟨_, rfl, he, hn⟩
  · have h2 : 6 < k := by omega
    go_enter Tryd.func11, Tryd.ntmps11
    go_wp2_with (go_at_call 25; refine (fail_any _ _).mono ?_; rintro e w' ⟨v, rfl, he, hn⟩)
    go_ret2
    exact ⟨_, rfl, he, hn⟩

theorem gone_rep {b rb : Nat} {l : List Row} {q : Nat} {r : Row} {w : World} (hr : ObjRep w b rb l) (hp : l[q]? = some r) :
    ObjRep (((w.setCell ⟨rb, q * 4 + 1, none⟩ (.int .u64 0)).setCell ⟨rb, q * 4 + 2, none⟩ (.int .i64 0)).setCell ⟨rb, q * 4 + 3, none⟩ (.int .u64 0))
      b rb (l.set q ⟨r.times, 0, 0, 0⟩) := by
  have hne : rb ≠ b := fun e => hr.ne e.symm
  have c0 := hr.rows.row Row.len hp 0 _ rfl
  have c1 := hr.rows.row Row.len hp 1 _ rfl
  have c2 := hr.rows.row Row.len hp 2 _ rfl
  have c3 := hr.rows.row Row.len hp 3 _ rfl
  refine ⟨hr.ne, ?_, hr.rows.put Row.len q _ ?_ ?_ (by simpa using hr.rows.lt) (by simpa using hr.rows.free), by simpa using hr.len, ?_⟩
  · simp only [List.length_set]
    exact ((hr.hd.setNe hne _).setNe hne _).setNe hne _
  · intro j v hv
    match j, hv with
    | 0, hv => cases hv; rw [cell_set_ne _ (by omega), cell_set_ne _ (by omega), cell_set_ne _ (by omega)]; exact c0
    | 1, hv => cases hv; rw [cell_set_ne _ (by omega), cell_set_ne _ (by omega)]; exact cell_set_eq _ c1
    | 2, hv => cases hv; rw [cell_set_ne _ (by omega)]; exact cell_set_eq (u := .int .i64 r.kind) _ (by rw [cell_set_ne _ (by omega)]; exact c2)
    | 3, hv => cases hv; exact cell_set_eq (u := .int .u64 r.addr) _ (by rw [cell_set_ne _ (by omega), cell_set_ne _ (by omega)]; exact c3)
    | j + 4, hv => simp [Row.cells] at hv
  · intro o ho
    rw [cell_set_ne _ (by omega), cell_set_ne _ (by omega), cell_set_ne _ (by omega)]
  · intro x hx
    rcases List.mem_or_eq_of_mem_set hx with h | rfl
    · exact hr.small x h
    · exact hr.small r (List.mem_of_getElem? hp)
theorem gone_fr (w : World) (rb o1 o2 o3 : Nat) (v1 v2 v3 : Value) :
    Fr (· = rb) w (((w.setCell ⟨rb, o1, none⟩ v1).setCell ⟨rb, o2, none⟩ v2).setCell ⟨rb, o3, none⟩ v3) := by
  repeat (first | exact Fr.refl _ _ | refine Fr.setCell (S := (· = rb)) ?_ (fun _ => by rfl) _)

set_option maxRecDepth 100000 in
set_option maxHeartbeats 400000 in
theorem gone_ok (b rb : Nat) (l : List Row) (h : Nat) (r : Row) (w : World) (hr : ObjRep w b rb l) (hh : h < 18446744073709551615) (hp : l[h % 64]? = some r) (he : r.handle = h + 1) :
    Calls Tryd.prog 18 #[.pointer (some ⟨b, 0, none⟩), .int .u64 (h + 1)] w fun e w' => e = .returned .nilIface ∧
      ObjRep w' b rb (l.set (h % 64) ⟨r.times, 0, 0, 0⟩) ∧ Fr (· = rb) w w' := by
  have c1 := hr.rows.row Row.len hp 1 _ rfl
  have c2 := hr.rows.row Row.len hp 2 _ rfl
  have c3 := hr.rows.row Row.len hp 3 _ rfl
  have fz := hr.rows.free
  have HP := Lib.hid hp
  have HE := Lib.hid he
  clear hp he
  go_enter Tryd.func18, Tryd.ntmps18
  go_wp2_with (go_at_call 29; refine (of_found b rb l h r _ hr hh HP.out HE.out).mono ?_; rintro e w' ⟨rfl, rfl⟩)
  go_ret
  exact ⟨rfl, gone_rep hr HP.out, gone_fr _ _ _ _ _ _ _ _⟩

/-- No object has this handle. -/
def NoHandle (l : List Row) (h : Nat) : Prop := h = 0 ∨ ∀ r, l[(h - 1) % 64]? = some r → r.handle ≠ h

theorem of_none (b rb : Nat) (l : List Row) (h : Nat) (w : World) (hr : ObjRep w b rb l) (hh : h < 18446744073709551616) (hp : NoHandle l h) :
    Calls Tryd.prog 29 #[.pointer (some ⟨b, 0, none⟩), .int .u64 h] w fun e w' => e = .returned (.pointer none) ∧ w = w' := by
  rcases Nat.eq_zero_or_pos h with rfl | h0
  · exact of_zero b w
  · obtain ⟨g, rfl⟩ : ∃ g, h = g + 1 := ⟨h - 1, by omega⟩
    rcases hp with hp | hp
    · omega
    · rw [Nat.add_sub_cancel] at hp
      by_cases hl : g % 64 < l.length
      · have hx : l[g % 64]? = some l[g % 64] := by simp [hl]
        exact of_other b rb l g _ w hr (by omega) hx (hp _ hx)
      · exact of_far b rb l g w hr (by omega) (by omega)

set_option maxRecDepth 100000 in
set_option maxHeartbeats 400000 in
theorem gone_none (b rb : Nat) (l : List Row) (h : Nat) (w : World) (hr : ObjRep w b rb l) (hh : h < 18446744073709551616) (hp : NoHandle l h) :
    Calls Tryd.prog 18 #[.pointer (some ⟨b, 0, none⟩), .int .u64 h] w fun e w' => ∃ v, e = .returned v ∧ IsErr w' v 7 ∧ New w w' := by
  go_enter Tryd.func18, Tryd.ntmps18
  go_wp2_with (first
    | (go_at_call 29; refine (of_none b rb l h _ hr hh hp).mono ?_; rintro e w' ⟨rfl, rfl⟩)
    | (go_at_call 25; refine (fail_any _ _).mono ?_; rintro e w' ⟨v, rfl, he, hn⟩))
  go_ret
  exact ⟨_, rfl, he, hn⟩

end Go.Proofs.YtincfbgegoefgaaDoor
