/- Blocks of cells: their making, errors, where a block begins and ends. -/
import Derived.Test.YtlmjogfjhngcoaaDoorAllocP
import Derived.Test.YtlmjogfjhngcoaaDoorErrE
import Derived.BigQuiet
import Derived.Deep.QuietTactic
namespace Go.Proofs.YtlmjogfjhngcoaaDoor
open Go.RowKit

abbrev alL : ByteArray := ⟨#[97, 108, 108, 111, 99]⟩

set_option maxRecDepth 100000 in
set_option maxHeartbeats 400000 in
theorem afail_any (n k : Int) (w : World) (h1 : 1 ≤ k) (h2 : k ≤ 10) :
    Calls Tryd.prog 34 #[.int .i64 n, .iface 37 (.int .i64 k)] w fun e w' => ∃ v, e = .returned v ∧ Tells w' v (some ([(alL, n)], k)) ∧ New w w' := by
  go_enter Tryd.func34, Tryd.ntmps34
  go_wp2
  go_ret
  exact ⟨_, rfl, ⟨⟨_, _, rfl, block_alloc_new _ _, rfl⟩, h1, h2⟩, (Fr.refl _ _).alloc _⟩

set_option maxRecDepth 100000 in
set_option maxHeartbeats 400000 in
theorem afail_in (n : Int) (v : Value) (L : ByteArray) (p k : Int) (w : World) (hv : Says w L v (some (p, k))) :
    Calls Tryd.prog 34 #[.int .i64 n, v] w fun e w' => ∃ v', e = .returned v' ∧ Tells w' v' (some ([(alL, n), (L, p)], k)) ∧ New w w' := by
  have HV := Lib.hid hv
  obtain ⟨eb, rfl⟩ := Says.at hv
  clear hv
  go_enter Tryd.func34, Tryd.ntmps34
  go_wp2
  go_ret
  exact ⟨_, rfl, ⟨⟨_, _, rfl, block_alloc_new _ _, HV.out.1.new ((Fr.refl _ _).alloc _)⟩, HV.out.2⟩, (Fr.refl _ _).alloc _⟩

set_option maxRecDepth 100000 in
set_option maxHeartbeats 400000 in
theorem anew_ok (mb : Nat) (F T : Int) (w : World) (h1 : 0 ≤ F) (h2 : F ≤ T) (h3 : T ≤ 9223372036854775807) :
    Calls Tryd.prog 20 #[.pointer (some ⟨mb, 0, none⟩), .int .i64 F, .int .i64 T] w fun e w' => ∃ ab, e = .returned (.tuple #[.pointer (some ⟨ab, 0, none⟩), .nilIface]) ∧ w.heap.size ≤ ab ∧ AllocRep w' ab mb (.slice none 0 0) F T [] ∧ New w w' := by
  go_enter Tryd.func20, Tryd.ntmps20
  go_wp2
  go_ret2
  exact ⟨_, rfl, Nat.le_refl _, ⟨block_alloc_new _ _, World.ownsRow_nil _ _ _ _, ⟨⟨h1, h2, h3⟩, fun b hb => (by cases hb), List.Pairwise.nil⟩, by simp⟩, (Fr.refl _ _).alloc _⟩

set_option maxRecDepth 100000 in
set_option maxHeartbeats 400000 in
theorem anew_none (F T : Int) (w : World) :
    Calls Tryd.prog 20 #[.pointer none, .int .i64 F, .int .i64 T] w fun e w' => ∃ v, e = .returned (.tuple #[.pointer none, v]) ∧ Tells w' v (some ([(alL, 0)], 1)) ∧ New w w' := by
  go_enter Tryd.func20, Tryd.ntmps20
  go_wp2_with (go_at_call 34; refine (afail_any _ _ _ (by omega) (by omega)).mono ?_; rintro e w' ⟨v, rfl, he, hn⟩)
  go_ret2
  exact ⟨_, rfl, he, hn⟩

set_option maxRecDepth 100000 in
set_option maxHeartbeats 400000 in
theorem anew_bad (mb : Nat) (F T : Int) (w : World) (h : F < 0 ∨ T < F) :
    Calls Tryd.prog 20 #[.pointer (some ⟨mb, 0, none⟩), .int .i64 F, .int .i64 T] w fun e w' => ∃ v, e = .returned (.tuple #[.pointer none, v]) ∧ Tells w' v (some ([(alL, 0)], 1)) ∧ New w w' := by
  by_cases h1 : F < 0
  · go_enter Tryd.func20, Tryd.ntmps20
    go_wp2_with (go_at_call 34; refine (afail_any _ _ _ (by omega) (by omega)).mono ?_; rintro e w' ⟨v, rfl, he, hn⟩)
    go_ret2
    exact ⟨_, rfl, he, hn⟩
  · have h2 : T < F := by omega
    go_enter Tryd.func20, Tryd.ntmps20
    go_wp2_with (go_at_call 34; refine (afail_any _ _ _ (by omega) (by omega)).mono ?_; rintro e w' ⟨v, rfl, he, hn⟩)
    go_ret2
    exact ⟨_, rfl, he, hn⟩

set_option maxRecDepth 100000 in
set_option maxHeartbeats 1000000 in
theorem aend_any (ab mb : Nat) (v : Value) (F T : Int) (l : List Bk) (i : Nat) (w : World) (h : AllocRep w ab mb v F T l) (hi : i ≤ l.length) :
    Calls Tryd.prog 35 #[.pointer (some ⟨ab, 0, none⟩), .int .i64 i] w fun e w' => e = .returned (.int .i64 (endA F l i)) ∧ New w w' := by
  have c1 : w.cell? ⟨ab, 1, none⟩ = some (.int .i64 F) := cell_of_block h.hd 1
  have c3 : w.cell? ⟨ab, 3, none⟩ = some v := cell_of_block h.hd 3
  have hfew := h.few
  cases i with
  | zero =>
    rw [show ((0 : Nat) : Int) = 0 from rfl]
    show Calls _ _ _ _ fun e w' => e = .returned (.int .i64 F) ∧ New w w'
    clear h
    go_enter Tryd.func35, Tryd.ntmps35
    go_wp2
    go_ret
    exact ⟨rfl, Fr.refl _ _⟩
  | succ i =>
    obtain ⟨b, hb⟩ : ∃ b, l[i]? = some b := ⟨l[i]'(by omega), by simp⟩
    rw [endA_succ hb]
    obtain ⟨ao, ca, rfl, _⟩ := owned_form h.own
    have hcap := doc_cap h.own
    obtain ⟨g, rfl, hg, hc⟩ := flat_at bC 3 bC_len h.own hb (by omega)
    have x0 : w.cell? ⟨g, i * 3, none⟩ = some (.int .i64 b.pos) := hc 0 _ rfl
    have x1 : w.cell? ⟨g, i * 3 + 1, none⟩ = some (.int .i64 b.num) := hc 1 _ rfl
    have hin := h.fit.inn b (List.mem_of_getElem? hb)
    have hlo := h.fit.lo
    obtain ⟨n, hn⟩ : ∃ n, l.length = n := ⟨_, rfl⟩
    rw [hn] at hi c3 hcap hfew
    have t0 : (((i + 1 : Nat) : Int) == 0) = false := by rw [beq_eq_false_iff_ne]; omega
    have t1 : ((i + 1 : Nat) : Int) - 1 = (i : Int) := by omega
    have q1 : (0 : Int) ≤ (i : Int) := by omega
    have q2 : (i : Int) < (n : Int) := by omega
    clear h hb hc hn
    go_enter Tryd.func35, Tryd.ntmps35
    go_wp2_with fail
    go_quiet (fail)
    go_wp2
    go_ret
    exact ⟨rfl, (Fr.refl _ _).drewN _⟩

set_option maxRecDepth 100000 in
set_option maxHeartbeats 1000000 in
theorem astart_any (ab mb : Nat) (v : Value) (F T : Int) (l : List Bk) (i : Nat) (w : World) (h : AllocRep w ab mb v F T l) (hi : i ≤ l.length) :
    Calls Tryd.prog 36 #[.pointer (some ⟨ab, 0, none⟩), .int .i64 i] w fun e w' => e = .returned (.int .i64 (startA T l i)) ∧ New w w' := by
  have c2 : w.cell? ⟨ab, 2, none⟩ = some (.int .i64 T) := cell_of_block h.hd 2
  have c3 : w.cell? ⟨ab, 3, none⟩ = some v := cell_of_block h.hd 3
  have hfew := h.few
  obtain ⟨ao, ca, rfl, _⟩ := owned_form h.own
  have hcap := doc_cap h.own
  unfold startA
  by_cases he : i = l.length
  · rw [List.getElem?_eq_none (by omega)]
    subst he
    obtain ⟨n, hn⟩ : ∃ n, l.length = n := ⟨_, rfl⟩
    rw [hn] at c3 hcap hfew ⊢
    have t0 : ((n : Int) == (n : Int)) = true := by simp
    clear h hn
    go_enter Tryd.func36, Tryd.ntmps36
    go_wp2
    go_ret
    exact ⟨rfl, Fr.refl _ _⟩
  · obtain ⟨b, hb⟩ : ∃ b, l[i]? = some b := ⟨l[i]'(by omega), by simp⟩
    rw [hb]
    obtain ⟨g, rfl, hg, hc⟩ := flat_at bC 3 bC_len h.own hb (by omega)
    have x0 : w.cell? ⟨g, i * 3, none⟩ = some (.int .i64 b.pos) := hc 0 _ rfl
    obtain ⟨n, hn⟩ : ∃ n, l.length = n := ⟨_, rfl⟩
    rw [hn] at hi c3 hcap hfew he
    have t0 : ((i : Int) == (n : Int)) = false := by rw [beq_eq_false_iff_ne]; omega
    have q1 : (0 : Int) ≤ (i : Int) := by omega
    have q2 : (i : Int) < (n : Int) := by omega
    clear h hb hc hn
    go_enter Tryd.func36, Tryd.ntmps36
    go_wp2
    go_ret
    exact ⟨rfl, Fr.refl _ _⟩

end Go.Proofs.YtlmjogfjhngcoaaDoor
