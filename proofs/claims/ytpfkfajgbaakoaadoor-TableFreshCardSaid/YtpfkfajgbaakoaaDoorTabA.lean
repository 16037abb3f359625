/- The table of threads: errors, the making of a table, whose an id is; on both sides. -/
import Derived.Test.YtpfkfajgbaakoaaDoorTabP
import Derived.Test.YtpfkfajgbaakoaaDoorSays
import Derived.Lib.Hide
namespace Go.Proofs.YtpfkfajgbaakoaaDoor
open Go.RowKit

def tabL : ByteArray := ⟨#[116, 97, 98, 108, 101]⟩

set_option maxRecDepth 100000 in
set_option maxHeartbeats 400000 in
theorem fail_any (k : Int) (w : World) (h1 : 1 ≤ k) (h2 : k ≤ 10) :
    Calls Tryd.prog 31 #[.iface 30 (.int .i64 k)] w fun e w' => ∃ v, e = .returned v ∧ Says w' tabL v (some (0, k)) ∧ New w w' := by
  go_enter Tryd.func31, Tryd.ntmps31
  go_wp2
  go_ret
  exact ⟨_, rfl, ⟨⟨_, _, rfl, block_alloc_new _ _, rfl⟩, h1, h2⟩, (Fr.refl _ _).alloc _⟩

set_option maxRecDepth 100000 in
set_option maxHeartbeats 400000 in
theorem rno_any (k : Int) (w : World) :
    Calls Tryd.prog 50 #[.int .i64 k] w fun e w' => ∃ v, e = .returned v ∧ SaysF w' tabL v (some (0, k)) ∧ New w w' := by
  go_enter Tryd.func50, Tryd.ntmps50
  go_wp2_with (go_at_call 11; refine (no_any tabL 0 k _).mono ?_; rintro e w' ⟨v, rfl, he, hn⟩)
  go_ret
  exact ⟨_, rfl, he, hn⟩

theorem rowInfo : (Tryd.prog.info? 78).map (fun i => (i.zero, i.size, i.bytes)) = some (some (.agg #[.int .u64 0, .bool false, .bool false, .int .u64 0, .int .i64 0, .int .u64 0, .int .u64 0, .int .u64 0, .bool false, .bool false]), 10, 64) := by kernel_rfl
theorem rrowInfo : (Tryd.prog.info? 93).map (fun i => (i.zero, i.size, i.bytes)) = some (some (.agg #[.int .u64 0, .int .i64 0, .int .u64 0, .int .u64 0, .int .u64 0, .bool false, .bool false, .bool false, .int .i64 0]), 9, 64) := by kernel_rfl

set_option maxRecDepth 100000 in
set_option maxHeartbeats 400000 in
theorem new_any (n : Nat) (w : World) (h1 : 1 ≤ n) (h2 : n ≤ 64) :
    Calls Tryd.prog 9 #[.int .i64 n] w fun e w' => ∃ b rb, e = .returned (.tuple #[.pointer (some ⟨b, 0, none⟩), .nilIface]) ∧ w.heap.size ≤ b ∧ w.heap.size ≤ rb ∧
      PRep w' b rb (List.replicate n noneR) ∧ New w w' := by
  obtain ⟨i0, hi, hz0, hz1, hz2⟩ := info_parts rowInfo
  go_enter Tryd.func9, Tryd.ntmps9
  go_wp2_with (at_make; refine wpList_make_full _ rfl (.tmp 12) (.tmp 12) 65 rfl w.heap.size 78 i0 _ 10 Tryd.underlying65 hi hz0 hz1 .i64 .i64 n n n rfl rfl rfl rfl (by rw [hz2]; omega) (by unfold maxLen; omega) (by omega) ?_; intro w1 hown hgrow)
  go_ret2
  refine ⟨_, _, rfl, hgrow.size, Nat.le_refl _, ?_, ((Fr.refl _ _).grown hgrow (fun _ h => by cases h)).alloc _⟩
  have hlt : w.heap.size < w1.heap.size := (hown.lt _ rfl).2
  have hrow := Arr.of_owns hown
  have e : (madeCells (Value.agg #[.int .u64 0, .bool false, .bool false, .int .u64 0, .int .i64 0, .int .u64 0, .int .u64 0, .int .u64 0, .bool false, .bool false]).cells (n * 10)).toList = (List.replicate n noneR).flatMap pC := by
    rw [← flatMap_replicate]; exact madeRows (pC noneR) (by simp [pC]) n
  rw [e] at hrow
  refine ⟨by omega, ?_, hrow.alloc _, by simp; omega⟩
  rw [List.length_replicate]
  exact Arr.new _ _ _

set_option maxRecDepth 100000 in
set_option maxHeartbeats 400000 in
theorem new_bad (n : Int) (w : World) (h : n < 1 ∨ 64 < n) :
    Calls Tryd.prog 9 #[.int .i64 n] w fun e w' => ∃ v, e = .returned (.tuple #[.pointer none, v]) ∧ Says w' tabL v (some (0, 1)) ∧ New w w' := by
  by_cases h1 : n < 1
  · go_enter Tryd.func9, Tryd.ntmps9
    go_wp2_with (go_at_call 31; refine (fail_any _ _ (by omega) (by omega)).mono ?_; rintro e w' ⟨v, rfl, he, hn⟩)
    go_ret2
    exact ⟨_, rfl, he, hn⟩
  · have h2 : 64 < n := by omega
    go_enter Tryd.func9, Tryd.ntmps9
    go_wp2_with (go_at_call 31; refine (fail_any _ _ (by omega) (by omega)).mono ?_; rintro e w' ⟨v, rfl, he, hn⟩)
    go_ret2
    exact ⟨_, rfl, he, hn⟩

set_option maxRecDepth 100000 in
set_option maxHeartbeats 400000 in
theorem rnew_any (n : Nat) (w : World) (h1 : 1 ≤ n) (h2 : n ≤ 64) :
    Calls Tryd.prog 24 #[.int .i64 n] w fun e w' => ∃ b rb, e = .returned (.tuple #[.pointer (some ⟨b, 0, none⟩), .pointer none]) ∧ w.heap.size ≤ b ∧ w.heap.size ≤ rb ∧
      DRep w' b rb (List.replicate n noneR) ∧ New w w' := by
  obtain ⟨i0, hi, hz0, hz1, hz2⟩ := info_parts rrowInfo
  go_enter Tryd.func24, Tryd.ntmps24
  go_wp2_with (at_make; refine wpList_make_full _ rfl (.tmp 11) (.tmp 11) 81 rfl w.heap.size 93 i0 _ 9 Tryd.underlying81 hi hz0 hz1 .i64 .i64 n n n rfl rfl rfl rfl (by rw [hz2]; omega) (by unfold maxLen; omega) (by omega) ?_; intro w1 hown hgrow)
  go_ret2
  refine ⟨_, _, rfl, hgrow.size, Nat.le_refl _, ?_, ((Fr.refl _ _).grown hgrow (fun _ h => by cases h)).alloc _⟩
  have hlt : w.heap.size < w1.heap.size := (hown.lt _ rfl).2
  have hrow := Arr.of_owns hown
  have e : (madeCells (Value.agg #[.int .u64 0, .int .i64 0, .int .u64 0, .int .u64 0, .int .u64 0, .bool false, .bool false, .bool false, .int .i64 0]).cells (n * 9)).toList = (List.replicate n noneR).flatMap dC := by
    rw [← flatMap_replicate]; exact madeRows (dC noneR) (by simp [dC]) n
  rw [e] at hrow
  refine ⟨by omega, ?_, hrow.alloc _, by simp; omega⟩
  rw [List.length_replicate]
  exact Arr.new _ _ _

/-- The place of an id: a pointer to its row, or none. -/
def ptrAt (l : List TR) (h rb n : Nat) : Value := match rowAt l h with | some _ => .pointer (some ⟨rb, h % 64 * n, none⟩) | none => .pointer none

set_option maxRecDepth 100000 in
set_option maxHeartbeats 1000000 in
theorem of_any (b rb : Nat) (l : List TR) (h : Nat) (w : World) (hr : PRep w b rb l) (hh : h < 18446744073709551616) :
    Calls Tryd.prog 34 #[.pointer (some ⟨b, 0, none⟩), .int .u64 h] w fun e w' => e = .returned (ptrAt l h rb 10) ∧ w = w' := by
  have hc := hr.hd.cell 0 _ rfl
  have hn := hr.len
  unfold ptrAt rowAt
  by_cases hp : h % 64 < l.length
  · obtain ⟨r, hx⟩ : ∃ r, l[h % 64]? = some r := ⟨l[h % 64]'hp, by simp⟩
    have c1 : w.cell? ⟨rb, h % 64 * 10 + 1, none⟩ = some (.bool r.taken) := hr.rows.row pC_len hx 1 _ rfl
    have c3 : w.cell? ⟨rb, h % 64 * 10 + 3, none⟩ = some (.int .u64 r.id) := hr.rows.row pC_len hx 3 _ rfl
    rw [hx, Option.bind_some]
    obtain ⟨n, hN⟩ : ∃ n, l.length = n := ⟨_, rfl⟩
    rw [hN] at hc hn hp
    clear hx hr hN
    cases ht : r.taken with
    | false =>
      rw [ht] at c1
      rw [if_neg (by simp)]
      clear ht
      go_enter Tryd.func34, Tryd.ntmps34
      go_wp2
      go_ret
      exact ⟨rfl, rfl⟩
    | true =>
      rw [ht] at c1
      clear ht
      by_cases hi : r.id = h
      · rw [if_pos ⟨rfl, hi⟩]
        have hb : ((r.id : Int) != (h : Int)) = false := by rw [bne_eq_false_iff_eq]; omega
        clear hi
        go_enter Tryd.func34, Tryd.ntmps34
        go_wp2
        go_ret
        exact ⟨rfl, rfl⟩
      · rw [if_neg (fun x => hi x.2)]
        have hb : ((r.id : Int) != (h : Int)) = true := by rw [bne_iff_ne]; omega
        clear hi
        go_enter Tryd.func34, Tryd.ntmps34
        go_wp2
        go_ret
        exact ⟨rfl, rfl⟩
  · rw [List.getElem?_eq_none (by omega), Option.bind_none]
    obtain ⟨n, hN⟩ : ∃ n, l.length = n := ⟨_, rfl⟩
    rw [hN] at hc hn hp
    clear hr hN
    go_enter Tryd.func34, Tryd.ntmps34
    go_wp2
    go_ret
    exact ⟨rfl, rfl⟩

/-- Of an id that is none, or that nobody has, the document's search meets no row; else the row of its place. -/
theorem find_not {l : List TR} {h : Nat} (hl : Placed l) (hn : l.length ≤ 64) (h0 : h ≠ 0) (e : rowAt l h = none) : ∀ (p : Nat) (r : TR), l[p]? = some r → r.id ≠ h := by
  intro p r hp hi
  cases ht : r.taken with
  | false => have := (hl p r hp).2 ht; omega
  | true =>
    rw [← hi, rowAt_of hl hn hp ht] at e
    cases e
theorem find_first {l : List TR} {h : Nat} {r : TR} (hl : Placed l) (hn : l.length ≤ 64) (e : rowAt l h = some r) : h ≠ 0 ∧ ∀ (q : Nat) (x : TR), q < h % 64 → l[q]? = some x → x.id ≠ h := by
  obtain ⟨h1, h2, h3⟩ := rowAt_some e
  obtain ⟨k1, k2, _⟩ := (hl _ _ h1).1 h2
  refine ⟨by omega, fun q x hq hx hi => ?_⟩
  have hlt := (List.getElem?_eq_some_iff.1 h1).1
  cases ht : x.taken with
  | false => have := (hl q x hx).2 ht; omega
  | true => have := ((hl q x hx).1 ht).1; omega

set_option maxRecDepth 100000 in
set_option maxHeartbeats 1000000 in
theorem rfind_any (b rb : Nat) (l : List TR) (h : Nat) (w : World) (hr : DRep w b rb l) (hl : Placed l) (hh : h < 18446744073709551616) :
    Calls Tryd.prog 44 #[.pointer (some ⟨b, 0, none⟩), .int .u64 h] w fun e w' => e = .returned (ptrAt l h rb 9) ∧ w = w' := by
  have c0 := hr.hd.cell 0 _ rfl
  have hlen := hr.len
  have hrow : ∀ j x, l[j]? = some x → w.cell? ⟨rb, j * 9, none⟩ = some (.int .u64 x.id) := fun j x hx => hr.rows.row dC_len (p := j) (a := x) hx 0 _ rfl
  have HROW := Lib.hid hrow
  unfold ptrAt
  by_cases h0 : h = 0
  · subst h0
    have e : rowAt l 0 = none := by
      cases e : rowAt l 0 with
      | none => rfl
      | some r => exact absurd rfl (find_first hl hlen e).1
    rw [e]
    obtain ⟨n, hn⟩ : ∃ n, l.length = n := ⟨_, rfl⟩
    rw [hn] at c0 hlen
    clear hr hrow hl e
    go_enter Tryd.func44, Tryd.ntmps44
    go_wp2_with fail
    go_loop [5] (fun i => i = .int .i64 0) (fun i => 0)
    case atStart => rfl
    case round =>
      obtain rfl := hrel
      by_cases hlt : 0 < n
      · go_wp2
        go_ret
        exact ⟨rfl, rfl⟩
      · go_wp2
        go_ret
        exact ⟨rfl, rfl⟩
  · have hz : ((h : Int) != 0) = true := by rw [bne_iff_ne]; omega
    cases e : rowAt l h with
    | none =>
      have HNO := Lib.hid (find_not hl hlen h0 e)
      obtain ⟨n, hn⟩ : ∃ n, l.length = n := ⟨_, rfl⟩
      have HN := Lib.hid hn
      rw [hn] at c0 hlen
      have hrl := hr.rows.lt
      clear hr hrow hl e hn
      go_enter Tryd.func44, Tryd.ntmps44
      go_wp2_with fail
      go_loop [5] (fun i => ∃ q : Nat, q ≤ n ∧ i = .int .i64 q) (fun i => n - (intOf i).toNat)
      case atStart => exact ⟨0, by omega, rfl⟩
      case round =>
        obtain ⟨q, hq, rfl⟩ := hrel
        by_cases hlt : q < n
        · obtain ⟨x, hx⟩ : ∃ x, l[q]? = some x := ⟨l[q]'(by rw [HN.out]; omega), by simp⟩
          have x0 := HROW.out q x hx
          have t1 : ((x.id : Int) == (h : Int)) = false := by rw [beq_eq_false_iff_ne]; have := HNO.out q x hx; omega
          clear hx
          go_wp2_with fail
          go_round
          case rel => exact ⟨q + 1, by omega, by go_num⟩
          case measure => simp [intOf]; omega
        · go_wp2
          go_ret
          exact ⟨rfl, rfl⟩
    | some r =>
      obtain ⟨h1, h2, h3⟩ := rowAt_some e
      have HNO := Lib.hid (find_first hl hlen e).2
      have hlt0 := (List.getElem?_eq_some_iff.1 h1).1
      obtain ⟨n, hn⟩ : ∃ n, l.length = n := ⟨_, rfl⟩
      have HN := Lib.hid hn
      rw [hn] at c0 hlen hlt0
      have hrl := hr.rows.lt
      have H1 := Lib.hid h1
      have H3 := Lib.hid h3
      obtain ⟨p, hp⟩ : ∃ p, h % 64 = p := ⟨_, rfl⟩
      rw [hp] at HNO hlt0 H1 ⊢
      clear hr hrow hl e hn h1 h2 h3 hp
      go_enter Tryd.func44, Tryd.ntmps44
      go_wp2_with fail
      go_loop [5] (fun i => ∃ q : Nat, q ≤ p ∧ i = .int .i64 q) (fun i => n - (intOf i).toNat)
      case atStart => exact ⟨0, by omega, rfl⟩
      case round =>
        obtain ⟨q, hq, rfl⟩ := hrel
        by_cases hlt : q < p
        · obtain ⟨x, hx⟩ : ∃ x, l[q]? = some x := ⟨l[q]'(by rw [HN.out]; omega), by simp⟩
          have x0 := HROW.out q x hx
          have t1 : ((x.id : Int) == (h : Int)) = false := by rw [beq_eq_false_iff_ne]; have := HNO.out q x hlt hx; omega
          clear hx
          go_wp2_with fail
          go_round
          case rel => exact ⟨q + 1, by omega, by go_num⟩
          case measure => simp [intOf]; omega
        · obtain rfl : q = p := by omega
          have x0 := HROW.out q r H1.out
          have t1 : ((r.id : Int) == (h : Int)) = true := by rw [H3.out]; simp
          go_wp2
          go_ret
          exact ⟨rfl, rfl⟩

end Go.Proofs.YtpfkfajgbaakoaaDoor
