/- The document's objects: made, found, gone. -/
import Derived.Test.YtincfbgegoefgaaDoorObjK
import Derived.Test.YtincfbgegoefgaaDoorSays
import Derived.Test.YtincfbgegoefgaaDoorRowsS
namespace Go.Proofs.YtincfbgegoefgaaDoor
open Go.RowKit

def oC (r : Row) : List Value := [.int .u64 r.handle, .int .u64 r.addr, .int .i64 r.kind]
theorem oC_len (r : Row) : (oC r).length = 3 := rfl
def tC (r : Row) : List Value := [.int .i64 r.times]
theorem tC_len (r : Row) : (tC r).length = 1 := rfl
theorem objInfo : (Tryd.prog.info? 47).map (fun i => (i.zero, i.size, i.bytes)) = some (some (.agg #[.int .u64 0, .int .u64 0, .int .i64 0]), 3, 24) := by kernel_rfl
theorem intInfo : (Tryd.prog.info? 3).map (fun i => (i.zero, i.size, i.bytes)) = some (some (.int .i64 0), 1, 8) := by kernel_rfl

abbrev objL : ByteArray := ⟨#[111, 98, 106, 101, 99, 116, 115]⟩
/-- Block b is the document's objects: lb what handles stand for, tb how often each place was taken. -/
structure DocO (w : World) (b lb tb : Nat) (l : List Row) : Prop where
  ne : b ≠ lb ∧ b ≠ tb ∧ lb ≠ tb
  hd : Arr w b [.slice (some ⟨lb, 0, none⟩) l.length l.length, .slice (some ⟨tb, 0, none⟩) l.length l.length]
  rows : Arr w lb (l.flatMap oC)
  times : Arr w tb (l.flatMap tC)
  len : l.length ≤ 64
  small : ∀ r ∈ l, r.times < 1000000
theorem DocO.keep {w w' : World} {b lb tb : Nat} {l : List Row} {S : Nat → Prop} (h : DocO w b lb tb l) (f : Fr S w w') (h1 : ¬ S b) (h2 : ¬ S lb) (h3 : ¬ S tb) : DocO w' b lb tb l :=
  ⟨h.ne, h.hd.keep f h1, h.rows.keep f h2, h.times.keep f h3, h.len, h.small⟩
theorem DocO.new {w w' : World} {b lb tb : Nat} {l : List Row} (h : DocO w b lb tb l) (f : New w w') : DocO w' b lb tb l := h.keep f id id id
/-- A handle tells its place. -/
def Placed (l : List Row) : Prop := ∀ p r, l[p]? = some r → r.handle ≠ 0 → r.handle < 18446744073709551616 ∧ (r.handle - 1) % 64 = p
theorem Placed.set {l : List Row} (h : Placed l) {p : Nat} {r : Row} (hr : r.handle ≠ 0 → r.handle < 18446744073709551616 ∧ (r.handle - 1) % 64 = p) : Placed (l.set p r) := fun q x hx h0 => by
  by_cases e : p = q
  · subst e
    rw [List.getElem?_set_self (by simpa using (List.getElem?_eq_some_iff.1 hx).1)] at hx
    obtain rfl := Option.some.inj hx
    exact hr h0
  · rw [List.getElem?_set_ne e] at hx
    exact h q x hx h0

theorem repl_len (n : Nat) : (List.replicate n (⟨0, 0, 0, 0⟩ : Row)).length = n := by simp
theorem obj_zero {w : World} {base g n : Nat} (h : w.ownsRow base 47 3 (.slice (some ⟨g, 0, none⟩) n n) n (madeCells (Value.agg #[.int .u64 0, .int .u64 0, .int .i64 0]).cells (n * 3)).toList) : Arr w g ((List.replicate n (⟨0, 0, 0, 0⟩ : Row)).flatMap oC) := by
  have hrow := Arr.of_owns h
  rwa [show (madeCells (Value.agg #[.int .u64 0, .int .u64 0, .int .i64 0]).cells (n * 3)).toList = (List.replicate n (⟨0, 0, 0, 0⟩ : Row)).flatMap oC by
    rw [← flatMap_replicate]; exact madeRows (oC ⟨0, 0, 0, 0⟩) (by simp [oC]) n] at hrow
theorem tim_zero {w : World} {base g n : Nat} (h : w.ownsRow base 3 1 (.slice (some ⟨g, 0, none⟩) n n) n (madeCells (Value.int .i64 0).cells (n * 1)).toList) : Arr w g ((List.replicate n (⟨0, 0, 0, 0⟩ : Row)).flatMap tC) := by
  have hrow := Arr.of_owns h
  rwa [show (madeCells (Value.int .i64 0).cells (n * 1)).toList = (List.replicate n (⟨0, 0, 0, 0⟩ : Row)).flatMap tC by
    rw [← flatMap_replicate]; exact madeRows (tC ⟨0, 0, 0, 0⟩) (by simp [tC]) n] at hrow
theorem rnew_rep {n b lb tb : Nat} {w2 w3 : World} (hc : Arr w2 lb ((List.replicate n (⟨0, 0, 0, 0⟩ : Row)).flatMap oC)) (hw : Arr w2 tb ((List.replicate n (⟨0, 0, 0, 0⟩ : Row)).flatMap tC)) (hne : lb ≠ tb) (hn : n ≤ 64)
    (hb : b = w2.heap.size) (h3 : w3 = w2.alloc (.cells #[.slice (some ⟨lb, 0, none⟩) n n, .slice (some ⟨tb, 0, none⟩) n n] 84)) :
    DocO w3 b lb tb (List.replicate n ⟨0, 0, 0, 0⟩) := by
  subst h3; subst hb
  have := hc.lt
  have := hw.lt
  refine ⟨⟨by omega, by omega, hne⟩, ?_, hc.alloc _, hw.alloc _, by simp; omega, fun r hr => by rw [(List.mem_replicate.1 hr).2]; decide⟩
  rw [List.length_replicate]
  exact Arr.new _ _ _

set_option maxRecDepth 100000 in
set_option maxHeartbeats 1000000 in
theorem rnew_any (n : Nat) (w : World) (h1 : 1 ≤ n) (h2 : n ≤ 64) :
    Calls Tryd.prog 14 #[.int .i64 n] w fun e w' => ∃ b lb tb, e = .returned (.tuple #[.pointer (some ⟨b, 0, none⟩), .pointer none]) ∧ w.heap.size ≤ b ∧ w.heap.size ≤ lb ∧ w.heap.size ≤ tb ∧
      DocO w' b lb tb (List.replicate n ⟨0, 0, 0, 0⟩) ∧ New w w' := by
  obtain ⟨i0, hi, hz0, hz1, hz2⟩ := info_parts objInfo
  obtain ⟨i1, hj, hy0, hy1, hy2⟩ := info_parts intInfo
  go_enter Tryd.func14, Tryd.ntmps14
  go_wp2_with fail
  refine regStart (by kernel_rfl) ?_
  refine wpAnyH_take (i := 0) (v := ?_) rfl (by kernel_rfl) (by kernel_rfl) (by kernel_rfl) (fun _ _ _ h => h) (Or.inl ⟨by rfl, ?_⟩) trivial ?_
  rotate_left
  · intro w _; go_simp; rfl
  refine wpAnyH_take (i := 2) (v := ?_) rfl (by kernel_rfl) (by kernel_rfl) (by kernel_rfl) (fun _ _ _ h => h) (Or.inl ⟨by rfl, ?_⟩) trivial ?_
  rotate_left
  · intro w _; go_simp; rfl
  refine regEither (i := 1) (j := 3) (by kernel_rfl) rfl rfl (by rfl) (by rfl) (fun K hK => ?_) (fun K hK => ?_)
  · refine opMakeFull _ (.tmp 11) (.tmp 11) 44 rfl w.heap.size 47 i0 _ 3 Tryd.underlying44 hi hz0 hz1 .i64 .i64 n n n rfl rfl rfl rfl (by rw [hz2]; omega) (by unfold maxLen; omega) (by simp) ?_
    intro w1 hown hg
    refine hK.out _ _ ?_
    clear hK K
    simp only [Act.put, List.setIfInBounds_toArray]
    refine regOne (i := 3) (by kernel_rfl) rfl (by rfl) (fun K hK => ?_)
    refine opMakeFull _ (.tmp 13) (.tmp 13) 59 rfl w1.heap.size 3 i1 _ 1 Tryd.underlying59 hj hy0 hy1 .i64 .i64 n n n rfl rfl rfl rfl (by rw [hy2]; omega) (by unfold maxLen; omega) (Nat.le_refl _) ?_
    intro w2 hown2 hg2
    refine hK.out _ _ ?_
    clear hK K
    simp only [Act.put]
    have hlt1 : w.drew.heap.size < w1.heap.size := (hown.lt _ rfl).2
    have hR := rnew_rep (w2 := w2) (b := w2.heap.size) ((obj_zero hown).keep ((Fr.refl (fun _ => False) w1).grown hg2 (fun _ h => by cases h)) id) (tim_zero hown2) (by omega) h2 rfl rfl
    have hF := (((Fr.refl (fun _ => False) w).drew.grown hg (fun _ h => by cases h)).grown hg2 (fun _ h => by cases h)).alloc (.cells #[.slice (some ⟨w.drew.heap.size, 0, none⟩) n n, .slice (some ⟨w1.heap.size, 0, none⟩) n n] 84)
    have hs2 := hg2.size
    have hs1 : w.drew.heap.size = w.heap.size := rfl
    have HR := Lib.hid hR
    have HF := Lib.hid hF
    clear hR hF hown hown2 hg hg2
    refine regOne (i := 4) (by kernel_rfl) rfl (by rfl) (fun K hK => ?_)
    go_simp
    refine hK.out _ _ ?_
    clear hK K
    refine regOne (i := 5) (by kernel_rfl) rfl (by rfl) (fun K hK => ?_)
    go_simp
    refine hK.out _ _ ?_
    clear hK K
    refine regOne (i := 6) (by kernel_rfl) rfl (by rfl) (fun K hK => ?_)
    go_simp
    refine hK.out _ _ ?_
    clear hK K
    refine regOne (i := 7) (by kernel_rfl) rfl (by rfl) (fun K hK => ?_)
    go_simp
    refine hK.out _ _ ?_
    clear hK K
    refine wpAnyH_done (by kernel_rfl) ?_ _
    go_wp2
    go_ret2
    exact ⟨w2.heap.size, _, _, rfl, by omega, by omega, by omega, HR.out, HF.out⟩
  · refine opMakeFull _ (.tmp 13) (.tmp 13) 59 rfl w.heap.size 3 i1 _ 1 Tryd.underlying59 hj hy0 hy1 .i64 .i64 n n n rfl rfl rfl rfl (by rw [hy2]; omega) (by unfold maxLen; omega) (by simp) ?_
    intro w1 hown hg
    refine hK.out _ _ ?_
    clear hK K
    simp only [Act.put, List.setIfInBounds_toArray]
    refine regOne (i := 1) (by kernel_rfl) rfl (by rfl) (fun K hK => ?_)
    refine opMakeFull _ (.tmp 11) (.tmp 11) 44 rfl w1.heap.size 47 i0 _ 3 Tryd.underlying44 hi hz0 hz1 .i64 .i64 n n n rfl rfl rfl rfl (by rw [hz2]; omega) (by unfold maxLen; omega) (Nat.le_refl _) ?_
    intro w2 hown2 hg2
    refine hK.out _ _ ?_
    clear hK K
    simp only [Act.put]
    have hlt1 : w.drew.heap.size < w1.heap.size := (hown.lt _ rfl).2
    have hR := rnew_rep (w2 := w2) (b := w2.heap.size) (obj_zero hown2) ((tim_zero hown).keep ((Fr.refl (fun _ => False) w1).grown hg2 (fun _ h => by cases h)) id) (by omega) h2 rfl rfl
    have hF := (((Fr.refl (fun _ => False) w).drew.grown hg (fun _ h => by cases h)).grown hg2 (fun _ h => by cases h)).alloc (.cells #[.slice (some ⟨w1.heap.size, 0, none⟩) n n, .slice (some ⟨w.drew.heap.size, 0, none⟩) n n] 84)
    have hs2 := hg2.size
    have hs1 : w.drew.heap.size = w.heap.size := rfl
    have HR := Lib.hid hR
    have HF := Lib.hid hF
    clear hR hF hown hown2 hg hg2
    refine regOne (i := 4) (by kernel_rfl) rfl (by rfl) (fun K hK => ?_)
    go_simp
    refine hK.out _ _ ?_
    clear hK K
    refine regOne (i := 5) (by kernel_rfl) rfl (by rfl) (fun K hK => ?_)
    go_simp
    refine hK.out _ _ ?_
    clear hK K
    refine regOne (i := 6) (by kernel_rfl) rfl (by rfl) (fun K hK => ?_)
    go_simp
    refine hK.out _ _ ?_
    clear hK K
    refine regOne (i := 7) (by kernel_rfl) rfl (by rfl) (fun K hK => ?_)
    go_simp
    refine hK.out _ _ ?_
    clear hK K
    refine wpAnyH_done (by kernel_rfl) ?_ _
    go_wp2
    go_ret2
    exact ⟨w2.heap.size, _, _, rfl, by omega, by omega, by omega, HR.out, HF.out⟩

theorem rplace_loop {l : List Row} (hpl : Placed l) {h : Nat} (hh : NoHandle l h) (h0 : h ≠ 0) : ∀ (j : Nat) (x : Row), l[j]? = some x → x.handle ≠ h := fun j x hx e => by
  rcases hh with rfl | hh
  · exact h0 rfl
  · have := (hpl j x hx (by omega)).2
    rw [e] at this
    exact hh x (by rw [this]; exact hx) e

set_option maxRecDepth 100000 in
set_option maxHeartbeats 1000000 in
theorem rplace_found (b lb tb : Nat) (l : List Row) (h : Nat) (r : Row) (w : World) (hr : DocO w b lb tb l) (hpl : Placed l) (hh : h < 18446744073709551615) (hp : l[h % 64]? = some r) (he : r.handle = h + 1) :
    Calls Tryd.prog 30 #[.pointer (some ⟨b, 0, none⟩), .int .u64 (h + 1)] w fun e w' => e = .returned (.int .i64 (h % 64 : Nat)) ∧ w = w' := by
  have c0 := hr.hd.cell 0 _ rfl
  have l1 := hr.hd.lt
  have hno : ∀ j x, j < h % 64 → l[j]? = some x → x.handle ≠ h + 1 := fun j x hj hx e => by
    have := (hpl j x hx (by omega)).2
    rw [e] at this
    simp only [Nat.add_sub_cancel] at this
    omega
  have hlt := (List.getElem?_eq_some_iff.1 hp).1
  have hrow : ∀ j x, l[j]? = some x → w.cell? ⟨lb, j * 3, none⟩ = some (.int .u64 x.handle) := fun j x hx => hr.rows.row oC_len (p := j) (a := x) hx 0 _ rfl
  have hlen := hr.len
  obtain ⟨n, hn⟩ : ∃ n, l.length = n := ⟨_, rfl⟩
  rw [hn] at c0 hlt hlen
  obtain ⟨q, hq⟩ : ∃ q, h % 64 = q := ⟨_, rfl⟩
  rw [hq] at hno hp hlt ⊢
  have HNO := Lib.hid hno
  have HROW := Lib.hid hrow
  have HP := Lib.hid hp
  have HN := Lib.hid hn
  have HE := Lib.hid he
  have hrl := hr.rows.lt
  clear hno hrow hp hn he hq hr hpl
  have t0 : (((h : Int) + 1) != 0) = true := by rw [bne_iff_ne]; omega
  go_enter Tryd.func30, Tryd.ntmps30
  go_wp2_with fail
  go_loop [5] (fun i => ∃ p : Nat, p ≤ q ∧ i = .int .i64 p) (fun i => n - (intOf i).toNat)
  case atStart => exact ⟨0, by omega, rfl⟩
  case round =>
    obtain ⟨p, hpq, rfl⟩ := hrel
    by_cases hlt2 : p < q
    · obtain ⟨x, hx⟩ : ∃ x, l[p]? = some x := ⟨l[p]'(by rw [HN.out]; omega), by simp⟩
      have x0 := HROW.out p x hx
      have t1 : ((x.handle : Int) == (h : Int) + 1) = false := by rw [beq_eq_false_iff_ne]; have := HNO.out p x hlt2 hx; omega
      clear hx
      go_wp2_with fail
      go_round
      case rel => exact ⟨p + 1, by omega, by go_num⟩
      case measure => simp [intOf]; omega
    · obtain rfl : p = q := by omega
      have x0 := HROW.out p r HP.out
      have t1 : ((r.handle : Int) == (h : Int) + 1) = true := by rw [beq_iff_eq]; have := HE.out; omega
      go_wp2
      go_ret
      exact ⟨rfl, rfl⟩

set_option maxRecDepth 100000 in
set_option maxHeartbeats 1000000 in
theorem rplace_none (b lb tb : Nat) (l : List Row) (h : Nat) (w : World) (hr : DocO w b lb tb l) (hpl : Placed l) (hh : NoHandle l h) :
    Calls Tryd.prog 30 #[.pointer (some ⟨b, 0, none⟩), .int .u64 h] w fun e w' => e = .returned (.int .i64 (-1)) ∧ w = w' := by
  have c0 := hr.hd.cell 0 _ rfl
  have l1 := hr.hd.lt
  have hrow : ∀ j x, l[j]? = some x → w.cell? ⟨lb, j * 3, none⟩ = some (.int .u64 x.handle) := fun j x hx => hr.rows.row oC_len (p := j) (a := x) hx 0 _ rfl
  have hlen := hr.len
  have hno := rplace_loop hpl hh
  obtain ⟨n, hn⟩ : ∃ n, l.length = n := ⟨_, rfl⟩
  rw [hn] at c0 hlen
  have HNO := Lib.hid hno
  have HROW := Lib.hid hrow
  have HN := Lib.hid hn
  have hrl := hr.rows.lt
  clear hno hrow hn hr hpl hh
  obtain ⟨y, hy⟩ : ∃ y, (((h : Int)) != 0) = y := ⟨_, rfl⟩
  go_enter Tryd.func30, Tryd.ntmps30
  go_wp2_with fail
  go_loop [5] (fun i => ∃ p : Nat, p ≤ n ∧ i = .int .i64 p) (fun i => n - (intOf i).toNat)
  case atStart => exact ⟨0, by omega, rfl⟩
  case round =>
    obtain ⟨p, hpq, rfl⟩ := hrel
    by_cases hlt2 : p < n
    · cases y with
      | true =>
        obtain ⟨x, hx⟩ : ∃ x, l[p]? = some x := ⟨l[p]'(by rw [HN.out]; omega), by simp⟩
        have x0 := HROW.out p x hx
        have t1 : ((x.handle : Int) == (h : Int)) = false := by
          rw [beq_eq_false_iff_ne]
          have := HNO.out (by intro e; subst e; simp at hy) p x hx
          omega
        clear hx
        go_wp2_with fail
        go_round
        case rel => exact ⟨p + 1, by omega, by go_num⟩
        case measure => simp [intOf]; omega
      | false =>
        go_wp2
        go_ret
        exact ⟨rfl, rfl⟩
    · go_wp2
      go_ret
      exact ⟨rfl, rfl⟩

theorem rmake_rep {b lb tb : Nat} {l : List Row} {k : Int} {a : Nat} {q : Nat} {r : Row} {w : World} {x y : Int} (hr : DocO w b lb tb l) (hp : l[q]? = some r)
    (hx : x = (q + 1 + 64 * r.times : Nat)) (hy : y = (r.times + 1 : Nat)) (ht : r.times < 999999) :
    DocO ((((w.setCell ⟨lb, q * 3, none⟩ (.int .u64 x)).setCell ⟨lb, q * 3 + 1, none⟩ (.int .u64 a)).setCell ⟨lb, q * 3 + 2, none⟩ (.int .i64 k)).setCell ⟨tb, q, none⟩ (.int .i64 y))
      b lb tb (l.set q ⟨r.times + 1, q + 1 + 64 * r.times, k, a⟩) := by
  subst hx; subst hy
  have hql := (List.getElem?_eq_some_iff.1 hp).1
  obtain ⟨n1, n2, n3⟩ := hr.ne
  have h1 := hr.rows.setRow oC_len (i := 0) (r' := ⟨r.times + 1, q + 1 + 64 * r.times, r.kind, r.addr⟩) (v := .int .u64 ((q + 1 + 64 * r.times : Nat) : Int)) hp (by omega) rfl
  have h2 := h1.setRow2 oC_len (i := 1) (r' := ⟨r.times + 1, q + 1 + 64 * r.times, r.kind, a⟩) (v := .int .u64 (a : Int)) hql (by omega) rfl
  have h3 := h2.setRow2 oC_len (i := 2) (r' := ⟨r.times + 1, q + 1 + 64 * r.times, k, a⟩) (v := .int .i64 k) hql (by omega) rfl
  have t1 := (((hr.times.setNe (o := q * 3) n3 (.int .u64 ((q + 1 + 64 * r.times : Nat) : Int))).setNe (o := q * 3 + 1) n3 (.int .u64 (a : Int))).setNe (o := q * 3 + 2) n3 (.int .i64 k)).setRow tC_len (i := 0) (r' := ⟨r.times + 1, q + 1 + 64 * r.times, k, a⟩) (v := .int .i64 ((r.times + 1 : Nat) : Int)) hp (by omega) rfl
  rw [Nat.add_zero, Nat.mul_one] at t1
  refine ⟨hr.ne, ?_, h3.setNe (Ne.symm n3) _, t1, by simpa using hr.len, fun x hx => ?_⟩
  · rw [List.length_set]
    exact (((hr.hd.setNe (Ne.symm n1) _).setNe (Ne.symm n1) _).setNe (Ne.symm n1) _).setNe (Ne.symm n2) _
  · rcases List.mem_or_eq_of_mem_set hx with h | rfl
    · exact hr.small x h
    · show r.times + 1 < _; omega
theorem rgone_rep {b lb tb : Nat} {l : List Row} {q : Nat} {r : Row} {w : World} (hr : DocO w b lb tb l) (hp : l[q]? = some r) :
    DocO (((w.setCell ⟨lb, q * 3, none⟩ (.int .u64 0)).setCell ⟨lb, q * 3 + 1, none⟩ (.int .u64 0)).setCell ⟨lb, q * 3 + 2, none⟩ (.int .i64 0)) b lb tb (l.set q ⟨r.times, 0, 0, 0⟩) := by
  have hql := (List.getElem?_eq_some_iff.1 hp).1
  obtain ⟨n1, n2, n3⟩ := hr.ne
  have h1 := hr.rows.setRow oC_len (i := 0) (r' := ⟨r.times, 0, r.kind, r.addr⟩) (v := .int .u64 0) hp (by omega) rfl
  have h2 := h1.setRow2 oC_len (i := 1) (r' := ⟨r.times, 0, r.kind, 0⟩) (v := .int .u64 0) hql (by omega) rfl
  have h3 := h2.setRow2 oC_len (i := 2) (r' := ⟨r.times, 0, 0, 0⟩) (v := .int .i64 0) hql (by omega) rfl
  have et : (l.set q ⟨r.times, 0, 0, 0⟩).flatMap tC = l.flatMap tC := by
    rw [← flatMap_set tC 1 tC_len l q 0 r ⟨r.times, 0, 0, 0⟩ (.int .i64 r.times) hp (by omega) rfl]
    have hg : (l.flatMap tC)[q * 1 + 0]? = some (.int .i64 r.times) := by rw [get_flatMap tC 1 tC_len l q 0 (by omega), hp]; rfl
    obtain ⟨e1, e2⟩ := List.getElem?_eq_some_iff.1 hg
    rw [← e2]; exact List.set_getElem_self e1
  refine ⟨hr.ne, ?_, h3, ?_, by simpa using hr.len, fun x hx => ?_⟩
  · rw [List.length_set]
    exact ((hr.hd.setNe (Ne.symm n1) _).setNe (Ne.symm n1) _).setNe (Ne.symm n1) _
  · rw [et]
    exact ((hr.times.setNe n3 _).setNe n3 _).setNe n3 _
  · rcases List.mem_or_eq_of_mem_set hx with h | rfl
    · exact hr.small x h
    · exact hr.small r (List.mem_of_getElem? hp)

set_option maxRecDepth 100000 in
set_option maxHeartbeats 1000000 in
theorem rmake_ok (b lb tb : Nat) (l : List Row) (k : Int) (a : Nat) (p : Nat) (r : Row) (w : World) (hr : DocO w b lb tb l) (h1 : 1 ≤ k) (h2 : k ≤ 6)
    (hp : l[p]? = some r) (ht : r.times < 999999) (h0 : r.handle = 0) (hq : ∀ q r', q < p → l[q]? = some r' → r'.handle ≠ 0) :
    Calls Tryd.prog 22 #[.pointer (some ⟨b, 0, none⟩), .int .i64 k, .int .u64 a] w fun e w' => e = .returned (.tuple #[.int .u64 (p + 1 + 64 * r.times : Nat), .pointer none]) ∧
      DocO w' b lb tb (l.set p ⟨r.times + 1, p + 1 + 64 * r.times, k, a⟩) ∧ Fr (fun k => k = lb ∨ k = tb) w w' := by
  have c0 := hr.hd.cell 0 _ rfl
  have c1 := hr.hd.cell 1 _ rfl
  have l1 := hr.hd.lt
  have hrow : ∀ j x, l[j]? = some x → w.cell? ⟨lb, j * 3, none⟩ = some (.int .u64 x.handle) := fun j x hx => hr.rows.row oC_len (p := j) (a := x) hx 0 _ rfl
  have hlen := hr.len
  have hlt := (List.getElem?_eq_some_iff.1 hp).1
  obtain ⟨n, hn⟩ : ∃ n, l.length = n := ⟨_, rfl⟩
  rw [hn] at c0 c1 hlen hlt
  have HNO := Lib.hid hq
  have HROW := Lib.hid hrow
  have HN := Lib.hid hn
  have HP := Lib.hid hp
  have HR := Lib.hid hr
  have hrl := hr.rows.lt
  have htl := hr.times.lt
  clear hq hrow hn hr hp
  go_enter Tryd.func22, Tryd.ntmps22
  go_wp2_with fail
  go_loop [8] (fun i => ∃ q : Nat, q ≤ p ∧ i = .int .i64 q) (fun i => n - (intOf i).toNat)
  case atStart => exact ⟨0, by omega, rfl⟩
  case round =>
    obtain ⟨q, hqp, rfl⟩ := hrel
    by_cases hlt2 : q < p
    · obtain ⟨x, hx⟩ : ∃ x, l[q]? = some x := ⟨l[q]'(by rw [HN.out]; omega), by simp⟩
      have x0 := HROW.out q x hx
      have t1 : ((x.handle : Int) == 0) = false := by rw [beq_eq_false_iff_ne]; have := HNO.out q x hlt2 hx; omega
      clear hx
      go_wp2_with fail
      go_round
      case rel => exact ⟨q + 1, by omega, by go_num⟩
      case measure => simp [intOf]; omega
    · obtain rfl : q = p := by omega
      have x0 := HROW.out q r HP.out
      have x1 : w.cell? ⟨lb, q * 3 + 1, none⟩ = some (.int .u64 r.addr) := HR.out.rows.row oC_len HP.out 1 _ rfl
      have x2 : w.cell? ⟨lb, q * 3 + 2, none⟩ = some (.int .i64 r.kind) := HR.out.rows.row oC_len HP.out 2 _ rfl
      have y0 : w.cell? ⟨tb, q, none⟩ = some (.int .i64 r.times) := by have := HR.out.times.row tC_len HP.out 0 _ rfl; rwa [Nat.mul_one] at this
      have t1 : ((r.handle : Int) == 0) = true := by rw [h0]; rfl
      have fz := HR.out.rows.free
      have fy := HR.out.times.free
      have hne1 : b ≠ lb := HR.out.ne.1
      have hne2 : b ≠ tb := HR.out.ne.2.1
      have hne3 : lb ≠ tb := HR.out.ne.2.2
      go_wp2
      go_ret2
      have hx : (q : Int) + 1 + 64 * r.times = (q + 1 + 64 * r.times : Nat) := by omega
      refine ⟨congrArg (fun x => Ending.returned (.tuple #[.int .u64 x, .pointer none])) hx, rmake_rep HR.out HP.out hx (by omega) (by omega), ?_⟩
      repeat (first | exact Fr.refl _ _ | refine Fr.setCell (S := fun k => k = lb ∨ k = tb) ?_ (fun _ => by first | exact .inl rfl | exact .inr rfl) _)

set_option maxRecDepth 100000 in
set_option maxHeartbeats 1000000 in
theorem rmake_full (b lb tb : Nat) (l : List Row) (k : Int) (a : Nat) (w : World) (hr : DocO w b lb tb l) (h1 : 1 ≤ k) (h2 : k ≤ 6) (hq : ∀ r ∈ l, r.handle ≠ 0) :
    Calls Tryd.prog 22 #[.pointer (some ⟨b, 0, none⟩), .int .i64 k, .int .u64 a] w fun e w' => ∃ f, e = .returned (.tuple #[.int .u64 0, f]) ∧ SaysF w' objL f (some (0, 3)) ∧ New w w' := by
  have c0 := hr.hd.cell 0 _ rfl
  have l1 := hr.hd.lt
  have hrow : ∀ j x, l[j]? = some x → w.cell? ⟨lb, j * 3, none⟩ = some (.int .u64 x.handle) := fun j x hx => hr.rows.row oC_len (p := j) (a := x) hx 0 _ rfl
  have hlen := hr.len
  obtain ⟨n, hn⟩ : ∃ n, l.length = n := ⟨_, rfl⟩
  rw [hn] at c0 hlen
  have HNO := Lib.hid hq
  have HROW := Lib.hid hrow
  have HN := Lib.hid hn
  have hrl := hr.rows.lt
  clear hq hrow hn hr
  go_enter Tryd.func22, Tryd.ntmps22
  go_wp2_with fail
  go_loop [8] (fun i => ∃ q : Nat, q ≤ n ∧ i = .int .i64 q) (fun i => n - (intOf i).toNat)
  case atStart => exact ⟨0, by omega, rfl⟩
  case round =>
    obtain ⟨q, hqp, rfl⟩ := hrel
    by_cases hlt2 : q < n
    · obtain ⟨x, hx⟩ : ∃ x, l[q]? = some x := ⟨l[q]'(by rw [HN.out]; omega), by simp⟩
      have x0 := HROW.out q x hx
      have t1 : ((x.handle : Int) == 0) = false := by rw [beq_eq_false_iff_ne]; have := HNO.out x (List.mem_of_getElem? hx); omega
      clear hx
      go_wp2_with fail
      go_round
      case rel => exact ⟨q + 1, by omega, by go_num⟩
      case measure => simp [intOf]; omega
    · go_wp2_with fail
      refine (no_says objL 0 3 _).mono ?_
      rintro e w1 ⟨f, rfl, hf, hn1⟩
      have HF := Lib.hid hf
      have HN1 := Lib.hid hn1
      clear hf hn1
      go_wp2
      go_ret2
      exact ⟨f, rfl, HF.out, HN1.out⟩

set_option maxRecDepth 100000 in
set_option maxHeartbeats 1000000 in
theorem rmake_bad (b : Nat) (k : Int) (a : Nat) (w : World) (hk : k < 1 ∨ 6 < k) :
    Calls Tryd.prog 22 #[.pointer (some ⟨b, 0, none⟩), .int .i64 k, .int .u64 a] w fun e w' => ∃ f, e = .returned (.tuple #[.int .u64 0, f]) ∧ SaysF w' objL f (some (0, 1)) ∧ New w w' := by
  by_cases h1 : k < 1
  · go_enter Tryd.func22, Tryd.ntmps22
    go_wp2_with fail
    refine (no_says objL 0 1 _).mono ?_
    rintro e w1 ⟨f, rfl, hf, hn1⟩
    have HF := Lib.hid hf
    have HN1 := Lib.hid hn1
    clear hf hn1
    go_wp2
    go_ret2
    exact ⟨f, rfl, HF.out, HN1.out⟩
  · have h2 : 6 < k := by omega
    go_enter Tryd.func22, Tryd.ntmps22
    go_wp2_with fail
    refine (no_says objL 0 1 _).mono ?_
    rintro e w1 ⟨f, rfl, hf, hn1⟩
    have HF := Lib.hid hf
    have HN1 := Lib.hid hn1
    clear hf hn1
    go_wp2
    go_ret2
    exact ⟨f, rfl, HF.out, HN1.out⟩

section
variable (b lb tb : Nat) (l : List Row) (h : Nat) (w : World)
set_option maxRecDepth 100000 in
set_option maxHeartbeats 1000000 in
theorem rfind_none (k : Int) (hr : DocO w b lb tb l) (hpl : Placed l) (hp : NoHandle l h) :
    Calls Tryd.prog 17 #[.pointer (some ⟨b, 0, none⟩), .int .u64 h, .int .i64 k] w fun e w' => ∃ f, e = .returned (.tuple #[.int .u64 0, f]) ∧ SaysF w' objL f (some (0, 7)) ∧ New w w' := by
  have HP := Lib.hid (rplace_none b lb tb l h w hr hpl hp)
  clear hr hpl hp
  go_enter Tryd.func17, Tryd.ntmps17
  go_wp2_with fail
  refine HP.out.mono ?_
  rintro e w1 ⟨rfl, rfl⟩
  go_wp2_with fail
  refine (no_says objL 0 7 _).mono ?_
  rintro e w1 ⟨f, rfl, hf, hn1⟩
  have HF := Lib.hid hf
  have HN1 := Lib.hid hn1
  clear hf hn1
  go_wp2
  go_ret2
  exact ⟨f, rfl, HF.out, HN1.out⟩

set_option maxRecDepth 100000 in
set_option maxHeartbeats 1000000 in
theorem rgone_none (hr : DocO w b lb tb l) (hpl : Placed l) (hp : NoHandle l h) :
    Calls Tryd.prog 19 #[.pointer (some ⟨b, 0, none⟩), .int .u64 h] w fun e w' => ∃ f, e = .returned (f) ∧ SaysF w' objL f (some (0, 7)) ∧ New w w' := by
  have HP := Lib.hid (rplace_none b lb tb l h w hr hpl hp)
  clear hr hpl hp
  go_enter Tryd.func19, Tryd.ntmps19
  go_wp2_with fail
  refine HP.out.mono ?_
  rintro e w1 ⟨rfl, rfl⟩
  go_wp2_with fail
  refine (no_says objL 0 7 _).mono ?_
  rintro e w1 ⟨f, rfl, hf, hn1⟩
  have HF := Lib.hid hf
  have HN1 := Lib.hid hn1
  clear hf hn1
  go_wp2
  go_ret
  exact ⟨f, rfl, HF.out, HN1.out⟩

set_option maxRecDepth 100000 in
set_option maxHeartbeats 1000000 in
theorem rkind_none (hr : DocO w b lb tb l) (hpl : Placed l) (hp : NoHandle l h) :
    Calls Tryd.prog 21 #[.pointer (some ⟨b, 0, none⟩), .int .u64 h] w fun e w' => e = .returned (.int .i64 0) ∧ w = w' := by
  have HP := Lib.hid (rplace_none b lb tb l h w hr hpl hp)
  clear hr hpl hp
  go_enter Tryd.func21, Tryd.ntmps21
  go_wp2_with fail
  refine HP.out.mono ?_
  rintro e w1 ⟨rfl, rfl⟩
  go_wp2
  go_ret
  exact ⟨rfl, rfl⟩

variable {r : Row} (hr : DocO w b lb tb l) (hpl : Placed l) (hh : h < 18446744073709551615) (hp : l[h % 64]? = some r) (he : r.handle = h + 1)
include hr hpl hh hp he
set_option maxRecDepth 100000 in
set_option maxHeartbeats 1000000 in
theorem rfind_any (k : Int) :
    Calls Tryd.prog 17 #[.pointer (some ⟨b, 0, none⟩), .int .u64 (h + 1), .int .i64 k] w fun e w' => ∃ f, e = .returned (.tuple #[.int .u64 ((if r.kind = k then r.addr else 0 : Nat) : Int), f]) ∧ SaysF w' objL f (if r.kind = k then none else some (0, 1)) ∧ New w w' := by
  have c0 := hr.hd.cell 0 _ rfl
  have l1 := hr.hd.lt
  have hrl := hr.rows.lt
  have hlt := (List.getElem?_eq_some_iff.1 hp).1
  have hlen := hr.len
  have x1 : w.cell? ⟨lb, h % 64 * 3 + 1, none⟩ = some (.int .u64 r.addr) := hr.rows.row oC_len hp 1 _ rfl
  have x2 : w.cell? ⟨lb, h % 64 * 3 + 2, none⟩ = some (.int .i64 r.kind) := hr.rows.row oC_len hp 2 _ rfl
  have hpc := rplace_found b lb tb l h r w hr hpl hh hp he
  obtain ⟨q, hq⟩ : ∃ q, h % 64 = q := ⟨_, rfl⟩
  obtain ⟨n, hn⟩ : ∃ n, l.length = n := ⟨_, rfl⟩
  rw [hq] at x1 x2 hpc hlt
  rw [hn] at hlt c0 hlen
  have HP := Lib.hid hpc
  clear hpc hq hn hr hpl hp he
  by_cases hk : r.kind = k
  · rw [if_pos hk, if_pos hk]
    have t1 : (r.kind != k) = false := by rw [hk]; simp
    clear hk
    go_enter Tryd.func17, Tryd.ntmps17
    go_wp2_with fail
    refine HP.out.mono ?_
    rintro e w1 ⟨rfl, rfl⟩
    go_wp2
    go_ret2
    exact ⟨_, rfl, rfl, Fr.refl _ _⟩
  · rw [if_neg hk, if_neg hk]
    have t1 : (r.kind != k) = true := by rw [bne_iff_ne]; exact hk
    clear hk
    go_enter Tryd.func17, Tryd.ntmps17
    go_wp2_with fail
    refine HP.out.mono ?_
    rintro e w1 ⟨rfl, rfl⟩
    go_wp2_with fail
    refine (no_says objL 0 1 _).mono ?_
    rintro e w1 ⟨f, rfl, hf, hn1⟩
    have HF := Lib.hid hf
    have HN1 := Lib.hid hn1
    clear hf hn1
    go_wp2
    go_ret2
    exact ⟨f, rfl, HF.out, HN1.out⟩

set_option maxRecDepth 100000 in
set_option maxHeartbeats 1000000 in
theorem rgone_ok :
    Calls Tryd.prog 19 #[.pointer (some ⟨b, 0, none⟩), .int .u64 (h + 1)] w fun e w' => e = .returned (.pointer none) ∧ DocO w' b lb tb (l.set (h % 64) ⟨r.times, 0, 0, 0⟩) ∧ Fr (fun k => k = lb ∨ k = tb) w w' := by
  have c0 := hr.hd.cell 0 _ rfl
  have l1 := hr.hd.lt
  have hrl := hr.rows.lt
  have hlt := (List.getElem?_eq_some_iff.1 hp).1
  have hlen := hr.len
  have x0 : w.cell? ⟨lb, h % 64 * 3, none⟩ = some (.int .u64 r.handle) := hr.rows.row oC_len hp 0 _ rfl
  have x1 : w.cell? ⟨lb, h % 64 * 3 + 1, none⟩ = some (.int .u64 r.addr) := hr.rows.row oC_len hp 1 _ rfl
  have x2 : w.cell? ⟨lb, h % 64 * 3 + 2, none⟩ = some (.int .i64 r.kind) := hr.rows.row oC_len hp 2 _ rfl
  have fz := hr.rows.free
  have hpc := rplace_found b lb tb l h r w hr hpl hh hp he
  have hrep := rgone_rep hr hp
  obtain ⟨q, hq⟩ : ∃ q, h % 64 = q := ⟨_, rfl⟩
  obtain ⟨n, hn⟩ : ∃ n, l.length = n := ⟨_, rfl⟩
  rw [hq] at x0 x1 x2 hpc hlt hrep ⊢
  rw [hn] at hlt c0 hlen
  have HP := Lib.hid hpc
  have HREP := Lib.hid hrep
  clear hpc hq hn hr hpl hp he hrep
  go_enter Tryd.func19, Tryd.ntmps19
  go_wp2_with fail
  refine HP.out.mono ?_
  rintro e w1 ⟨rfl, rfl⟩
  go_wp2
  go_ret
  refine ⟨rfl, HREP.out, ?_⟩
  repeat (first | exact Fr.refl _ _ | refine Fr.setCell (S := fun k => k = lb ∨ k = tb) ?_ (fun _ => by first | exact .inl rfl | exact .inr rfl) _)

set_option maxRecDepth 100000 in
set_option maxHeartbeats 1000000 in
theorem rkind_ok :
    Calls Tryd.prog 21 #[.pointer (some ⟨b, 0, none⟩), .int .u64 (h + 1)] w fun e w' => e = .returned (.int .i64 r.kind) ∧ w = w' := by
  have c0 := hr.hd.cell 0 _ rfl
  have l1 := hr.hd.lt
  have hrl := hr.rows.lt
  have hlt := (List.getElem?_eq_some_iff.1 hp).1
  have hlen := hr.len
  have x2 : w.cell? ⟨lb, h % 64 * 3 + 2, none⟩ = some (.int .i64 r.kind) := hr.rows.row oC_len hp 2 _ rfl
  have hpc := rplace_found b lb tb l h r w hr hpl hh hp he
  obtain ⟨q, hq⟩ : ∃ q, h % 64 = q := ⟨_, rfl⟩
  obtain ⟨n, hn⟩ : ∃ n, l.length = n := ⟨_, rfl⟩
  rw [hq] at x2 hpc hlt
  rw [hn] at hlt c0 hlen
  have HP := Lib.hid hpc
  clear hpc hq hn hr hpl hp he
  go_enter Tryd.func21, Tryd.ntmps21
  go_wp2_with fail
  refine HP.out.mono ?_
  rintro e w1 ⟨rfl, rfl⟩
  go_wp2
  go_ret
  exact ⟨rfl, rfl⟩
end

end Go.Proofs.YtincfbgegoefgaaDoor
