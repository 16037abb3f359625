/- A memory's answers, errors and all: rows, mapping, unmapping, accesses of cells that are not there. -/
import Derived.Test.YtngpcalgjaglmaaDoorMemE
import Derived.Test.YtngpcalgjaglmaaDoorMemC
import Derived.Test.YtngpcalgjaglmaaDoorSays
namespace Go.Proofs.YtngpcalgjaglmaaDoor
open Go.RowKit

abbrev memL : ByteArray := ⟨#[109, 101, 109]⟩

/-- The first of n cells from at_ on that is not as asked. -/
def firstBad (ws : List Nat) (t : Bool) (at_ : Nat) : Nat → Option Nat
  | 0 => none
  | n + 1 => if (ws.getD at_ 0 != 0) = t then firstBad ws t (at_ + 1) n else some at_
def rowErr (ws : List Nat) (at_ n : Int) (t : Bool) : Option (Int × Int) :=
  if at_ < 0 ∨ (ws.length : Int) - at_ < n then some (at_, 2) else Option.map (fun i : Nat => ((i : Int), (4 : Int))) (firstBad ws t at_.toNat n.toNat)
def mapErr (ws : List Nat) (at_ n W : Int) : Option (Int × Int) := if n < 1 ∨ (W ≠ 32 ∧ W ≠ 64) then some (0, 1) else rowErr ws at_ n false
def unmapErr (ws : List Nat) (at_ n : Int) : Option (Int × Int) := if n < 1 then some (0, 1) else rowErr ws at_ n true

theorem ne0_cast (x : Nat) : ((x : Int) != 0) = (x != 0) := by
  rw [Bool.eq_iff_iff, bne_iff_ne, bne_iff_ne]; omega
theorem firstBad_none (ws : List Nat) (t : Bool) : ∀ (n at_ : Nat), firstBad ws t at_ n = none → ∀ i, at_ ≤ i → i < at_ + n → (ws.getD i 0 != 0) = t
  | 0, _, _, i, h1, h2 => by omega
  | n + 1, at_, h, i, h1, h2 => by
    unfold firstBad at h
    split at h
    · rename_i h0
      by_cases e : i = at_
      · subst e; exact h0
      · exact firstBad_none ws t n (at_ + 1) h i (by omega) (by omega)
    · cases h
theorem firstBad_some (ws : List Nat) (t : Bool) : ∀ (n at_ j : Nat), firstBad ws t at_ n = some j → at_ ≤ j ∧ j < at_ + n ∧ (∀ i, at_ ≤ i → i < j → (ws.getD i 0 != 0) = t) ∧ (ws.getD j 0 != 0) = !t
  | 0, _, _, h => by cases h
  | n + 1, at_, j, h => by
    unfold firstBad at h
    split at h
    · rename_i h0
      obtain ⟨h1, h2, h3, h4⟩ := firstBad_some ws t n (at_ + 1) j h
      refine ⟨by omega, by omega, fun i hi1 hi2 => ?_, h4⟩
      by_cases e : i = at_
      · subst e; exact h0
      · exact h3 i (by omega) hi2
    · rename_i h0
      obtain rfl : at_ = j := Option.some.inj h
      refine ⟨by omega, by omega, fun i hi1 hi2 => by omega, ?_⟩
      cases t <;> simp_all

theorem rowErr_none {ws : List Nat} {at_ n : Int} {t : Bool} (h : rowErr ws at_ n t = none) (h1 : 1 ≤ n) : ∃ a m : Nat, at_ = a ∧ n = m ∧ 1 ≤ m ∧ a + m ≤ ws.length ∧ ∀ i, a ≤ i → i < a + m → (ws.getD i 0 != 0) = t := by
  unfold rowErr at h
  split at h
  · cases h
  · rename_i h0
    have := firstBad_none ws t n.toNat at_.toNat (by simpa using h)
    exact ⟨at_.toNat, n.toNat, by omega, by omega, by omega, by omega, this⟩
theorem rowErr_some {ws : List Nat} {at_ n p k : Int} {t : Bool} (h : rowErr ws at_ n t = some (p, k)) (h1 : 1 ≤ n) :
    ((at_ < 0 ∨ (0 ≤ at_ ∧ (ws.length : Int) - at_ < n)) ∧ p = at_ ∧ k = 2) ∨
    ∃ a m j : Nat, at_ = a ∧ n = m ∧ 1 ≤ m ∧ a + m ≤ ws.length ∧ a ≤ j ∧ j < a + m ∧ p = j ∧ k = 4 ∧ (∀ i, a ≤ i → i < j → (ws.getD i 0 != 0) = t) ∧ (ws.getD j 0 != 0) = !t := by
  unfold rowErr at h
  split at h
  · rename_i h0
    have := Option.some.inj h
    simp only [Prod.mk.injEq] at this
    exact .inl ⟨by omega, this.1.symm, this.2.symm⟩
  · rename_i h0
    obtain ⟨j, hj, e⟩ := Option.map_eq_some_iff.1 h
    simp only [Prod.mk.injEq] at e
    obtain ⟨g1, g2, g3, g4⟩ := firstBad_some ws t _ _ _ hj
    exact .inr ⟨at_.toNat, n.toNat, j, by omega, by omega, by omega, by omega, g1, g2, e.1.symm, e.2.symm, g3, g4⟩
theorem rowErr_kind {ws : List Nat} {at_ n p k : Int} {t : Bool} (h : rowErr ws at_ n t = some (p, k)) (h1 : 1 ≤ n) : 1 ≤ k ∧ k ≤ 10 := by
  rcases rowErr_some h h1 with ⟨_, _, rfl⟩ | ⟨_, _, _, _, _, _, _, _, _, _, rfl, _⟩ <;> omega

/-- Block eb is the error of this layer. -/
def ErrAt (w : World) (eb : Nat) (n k : Int) : Prop := w.heap[eb]? = some (.cells #[.string memL, .int .i64 n, .iface 55 (.int .i64 k)] 92 (0, 0))
theorem ErrAt.says {w : World} {eb : Nat} {n k : Int} (h : ErrAt w eb n k) (h1 : 1 ≤ k) (h2 : k ≤ 10) : Says w memL (.iface 88 (.pointer (some ⟨eb, 0, none⟩))) (some (n, k)) :=
  ⟨⟨eb, _, rfl, h, rfl⟩, h1, h2⟩

set_option maxRecDepth 100000 in
set_option maxHeartbeats 400000 in
theorem fail_any (n k : Int) (w : World) :
    Calls Tryd.prog 40 #[.int .i64 n, .iface 55 (.int .i64 k)] w fun e w' => ∃ eb, e = .returned (.iface 88 (.pointer (some ⟨eb, 0, none⟩))) ∧ ErrAt w' eb n k ∧ New w w' := by
  go_enter Tryd.func40, Tryd.ntmps40
  go_wp2
  go_ret
  exact ⟨_, rfl, block_alloc_new _ _, (Fr.refl _ _).alloc _⟩

set_option maxRecDepth 100000 in
set_option maxHeartbeats 400000 in
theorem new_bad (n : Int) (w : World) (h : n < 1 ∨ 65536 < n) :
    Calls Tryd.prog 19 #[.int .i64 n] w fun e w' => ∃ eb, e = .returned (.tuple #[.pointer none, .iface 88 (.pointer (some ⟨eb, 0, none⟩))]) ∧ ErrAt w' eb 0 1 ∧ New w w' := by
  rcases h with h | h
  all_goals
    go_enter Tryd.func19, Tryd.ntmps19
    go_wp2_with (go_at_call 40; refine (fail_any _ _ _).mono ?_; rintro e w1 ⟨eb, rfl, he, hn⟩)
    go_ret2
    exact ⟨eb, rfl, he, hn⟩

set_option maxRecDepth 100000 in
set_option maxHeartbeats 400000 in
theorem row_far (b cb wb : Nat) (cs ws : List Nat) (th ct : Nat) (at_ n : Int) (t : Bool) (w : World) (h : MemRep w b cb wb cs ws th ct) (hl : at_ < 0 ∨ (0 ≤ at_ ∧ (ws.length : Int) - at_ < n)) (ha : at_ ≤ 9223372036854775807) :
    Calls Tryd.prog 41 #[.pointer (some ⟨b, 0, none⟩), .int .i64 at_, .int .i64 n, .bool t] w fun e w' => ∃ eb, e = .returned (.iface 88 (.pointer (some ⟨eb, 0, none⟩))) ∧ ErrAt w' eb at_ 2 ∧ New w w' := by
  have c0 := h.hd.cell 0 _ rfl
  have hlen := h.len.2
  have hl2 := h.len.1
  rw [← hl2] at hl
  clear hl2 h
  rcases hl with hl | ⟨hl0, hl⟩
  all_goals
    go_enter Tryd.func41, Tryd.ntmps41
    go_wp2_with (go_at_call 40; refine (fail_any _ _ _).mono ?_; rintro e w1 ⟨eb, rfl, he, hn⟩)
    go_ret
    exact ⟨eb, rfl, he, hn⟩

theorem getD_get {ws : List Nat} {i : Nat} (h : i < ws.length) : ws[i]? = some (ws.getD i 0) := by simp [List.getD_eq_getElem?_getD, h]

set_option maxRecDepth 100000 in
set_option maxHeartbeats 1000000 in
theorem row_block (b cb wb : Nat) (cs ws : List Nat) (th ct at_ n j : Nat) (t : Bool) (w : World) (h : MemRep w b cb wb cs ws th ct) (hl : at_ + n ≤ ws.length) (hj1 : at_ ≤ j) (hj2 : j < at_ + n)
    (ha : ∀ i, at_ ≤ i → i < j → (ws.getD i 0 != 0) = t) (hj : (ws.getD j 0 != 0) = !t) :
    Calls Tryd.prog 41 #[.pointer (some ⟨b, 0, none⟩), .int .i64 at_, .int .i64 n, .bool t] w fun e w' => ∃ eb, e = .returned (.iface 88 (.pointer (some ⟨eb, 0, none⟩))) ∧ ErrAt w' eb j 4 ∧ New w w' := by
  have c0 := h.hd.cell 0 _ rfl
  have c1 := h.hd.cell 1 _ rfl
  have hlen := h.len.2
  have hl2 : at_ + n ≤ cs.length := by rw [h.len.1]; exact hl
  have H := Lib.hid h
  have HA := Lib.hid ha
  have HJ := Lib.hid hj
  clear h ha hj
  go_enter Tryd.func41, Tryd.ntmps41
  go_wp2_with fail
  go_loop [9] (fun i => ∃ k : Nat, at_ ≤ k ∧ k ≤ j ∧ i = .int .i64 k) (fun i => at_ + n - (intOf i).toNat)
  case atStart => exact ⟨at_, by omega, by omega, rfl⟩
  case round =>
    obtain ⟨k, hk1, hk2, rfl⟩ := hrel
    have hx := getD_get (show k < ws.length by omega)
    have cx := at_map H.out.widths hx
    by_cases hlt : k < j
    · have hb := HA.out k hk1 hlt
      have hb' : ((ws.getD k 0 : Int) != 0) = t := by rw [← hb]; exact ne0_cast _
      generalize ws.getD k 0 = x at cx hb'
      clear hb hx
      cases t
      all_goals
        go_wp2
        go_round
        case rel => exact ⟨k + 1, by omega, by omega, by go_num⟩
        case measure => simp [intOf]; omega
    · obtain rfl : k = j := by omega
      have hb := HJ.out
      have hb' : ((ws.getD k 0 : Int) != 0) = !t := by rw [← hb]; exact ne0_cast _
      generalize ws.getD k 0 = x at cx hb'
      clear hb hx HJ
      cases t
      all_goals
        simp only [Bool.not_true, Bool.not_false] at hb'
        go_wp2_with (go_at_call 40; refine (fail_any _ _ _).mono ?_; rintro e w1 ⟨eb, rfl, he, hn⟩)
        go_ret
        exact ⟨eb, rfl, he, hn⟩

theorem row_err (b cb wb : Nat) (cs ws : List Nat) (th ct : Nat) (at_ n p k : Int) (t : Bool) (w : World) (h : MemRep w b cb wb cs ws th ct) (h1 : 1 ≤ n) (ha : at_ ≤ 9223372036854775807) (he : rowErr ws at_ n t = some (p, k)) :
    Calls Tryd.prog 41 #[.pointer (some ⟨b, 0, none⟩), .int .i64 at_, .int .i64 n, .bool t] w fun e w' => ∃ eb, e = .returned (.iface 88 (.pointer (some ⟨eb, 0, none⟩))) ∧ ErrAt w' eb p k ∧ New w w' := by
  rcases rowErr_some he h1 with ⟨hl, rfl, rfl⟩ | ⟨a, m, j, rfl, rfl, hm, hl, hj1, hj2, rfl, rfl, hb1, hb2⟩
  · exact row_far b cb wb cs ws th ct p n t w h hl ha
  · exact row_block b cb wb cs ws th ct a m j t w h hl hj1 hj2 hb1 hb2

set_option maxRecDepth 100000 in
set_option maxHeartbeats 1000000 in
/-- Whatever goes wrong at a mapping, nothing else turns. -/
theorem map_err (b cb wb : Nat) (cs ws : List Nat) (th ct : Nat) (at_ n W p k : Int) (w : World) (h : MemRep w b cb wb cs ws th ct) (ha : at_ ≤ 9223372036854775807) (he : mapErr ws at_ n W = some (p, k)) :
    Calls Tryd.prog 21 #[.pointer (some ⟨b, 0, none⟩), .int .i64 at_, .int .i64 n, .int .i64 W] w fun e w' => ∃ eb, e = .returned (.iface 88 (.pointer (some ⟨eb, 0, none⟩))) ∧ ErrAt w' eb p k ∧ New w w' := by
  unfold mapErr at he
  split at he
  · rename_i h0
    have h2 := Option.some.inj he
    simp only [Prod.mk.injEq] at h2
    obtain ⟨rfl, rfl⟩ := h2
    clear h he
    rcases (show n < 1 ∨ (1 ≤ n ∧ W ≠ 32 ∧ W ≠ 64) by omega) with h1 | ⟨h1, h2, h3⟩
    · go_enter Tryd.func21, Tryd.ntmps21
      go_wp2_with (go_at_call 40; refine (fail_any _ _ _).mono ?_; rintro e w1 ⟨eb, rfl, he, hn⟩)
      go_ret
      exact ⟨eb, rfl, he, hn⟩
    · have t1 : (W != 32) = true := by rw [bne_iff_ne]; exact h2
      have t2 : (W != 64) = true := by rw [bne_iff_ne]; exact h3
      clear h2 h3 h0
      go_enter Tryd.func21, Tryd.ntmps21
      go_wp2_with (go_at_call 40; refine (fail_any _ _ _).mono ?_; rintro e w1 ⟨eb, rfl, he, hn⟩)
      go_ret
      exact ⟨eb, rfl, he, hn⟩
  · rename_i h0
    have h1 : 1 ≤ n := by omega
    have hW : W = 32 ∨ W = 64 := by omega
    have HR := Lib.hid (row_err b cb wb cs ws th ct at_ n p k false w h h1 ha he)
    clear he h h0
    rcases hW with rfl | rfl
    all_goals
      go_enter Tryd.func21, Tryd.ntmps21
      go_wp2_with (go_at_call 41; refine HR.out.mono ?_; rintro e w1 ⟨eb, rfl, he, hn⟩)
      go_ret
      exact ⟨eb, rfl, he, hn⟩

/-- A mapping's answer, and what it leaves. -/
theorem map_any (b cb wb : Nat) (cs ws : List Nat) (th ct : Nat) (at_ n W : Int) (w : World) (h : MemRep w b cb wb cs ws th ct) (ha : at_ ≤ 9223372036854775807) (hth : mapErr ws at_ n W = none → (th : Int) + n ≤ 10000000) :
    Calls Tryd.prog 21 #[.pointer (some ⟨b, 0, none⟩), .int .i64 at_, .int .i64 n, .int .i64 W] w fun e w' => ∃ v, e = .returned v ∧ Says w' memL v (mapErr ws at_ n W) ∧
      (if mapErr ws at_ n W = none then ∃ th', MemRep w' b cb wb (fill cs at_.toNat n.toNat 0) (fill ws at_.toNat n.toNat W.toNat) th' ct ∧ th' = th + n.toNat else MemRep w' b cb wb cs ws th ct) ∧ Fr (fun k => mapErr ws at_ n W = none ∧ (k = b ∨ k = cb ∨ k = wb)) w w' := by
  cases he : mapErr ws at_ n W with
  | some x =>
    obtain ⟨p, k⟩ := x
    have hk : 1 ≤ k ∧ k ≤ 10 := by
      unfold mapErr at he
      split at he
      · have := Option.some.inj he; simp only [Prod.mk.injEq] at this; omega
      · exact rowErr_kind he (by omega)
    refine (map_err b cb wb cs ws th ct at_ n W p k w h ha he).mono ?_
    rintro e w1 ⟨eb, rfl, he', hn⟩
    refine ⟨_, rfl, he'.says hk.1 hk.2, ?_, hn.mono (fun _ _ h => h.elim)⟩
    rw [if_neg (by simp)]
    exact h.keep hn id id id
  | none =>
    have hth' := hth he
    unfold mapErr at he
    split at he
    · cases he
    · rename_i h0
      obtain ⟨a, m, rfl, rfl, h1, hl, hz⟩ := rowErr_none he (by omega)
      have hW : ∃ V : Nat, W = V ∧ (V = 32 ∨ V = 64) := ⟨W.toNat, by omega, by omega⟩
      obtain ⟨V, rfl, hV⟩ := hW
      refine (map_ok b cb wb cs ws th ct a m V w h h1 (by rw [h.len.1]; exact hl) (fun i x h1 h2 h3 => ?_) hV (by omega)).mono ?_
      · have := hz i h1 h2
        rw [List.getD_eq_getElem?_getD, h3] at this
        simpa using this
      · rintro e w1 ⟨rfl, hr, hf⟩
        refine ⟨_, rfl, rfl, ?_, hf.mono (fun _ _ h => ⟨rfl, h⟩)⟩
        rw [if_pos rfl]
        exact ⟨_, hr, by simp⟩

theorem width_any (b cb wb : Nat) (cs ws : List Nat) (th ct p : Nat) (w : World) (h : MemRep w b cb wb cs ws th ct) :
    Calls Tryd.prog 62 #[.pointer (some ⟨b, 0, none⟩), .int .u64 p] w fun e w' => e = .returned (.int .i64 (ws.getD p 0 : Nat)) ∧ w = w' := by
  by_cases hl : p < ws.length
  · exact width_at b cb wb cs ws th ct p _ w h (getD_get hl)
  · rw [List.getD_eq_getElem?_getD, List.getElem?_eq_none (by omega)]
    exact width_far b cb wb cs ws th ct p w h (by rw [h.len.1]; omega)

/-- The place that is told where no cell is. -/
def gonePlace (p : Nat) : Int := if p ≤ 4611686018427387904 then (p : Int) else 0

set_option maxRecDepth 100000 in
set_option maxHeartbeats 1000000 in
theorem access_gone (kind : Int) (b cb wb : Nat) (cs ws : List Nat) (th ct p o v : Nat) (w : World) (h : MemRep w b cb wb cs ws th ct) (hw : ws.getD p 0 = 0) (hp : p < 18446744073709551616) :
    Calls Tryd.prog 43 #[.pointer (some ⟨b, 0, none⟩), .int .i64 kind, .int .u64 p, .int .u64 o, .int .u64 v] w fun e w' => ∃ eb, e = .returned (.tuple #[.int .u64 0, .iface 88 (.pointer (some ⟨eb, 0, none⟩))]) ∧ ErrAt w' eb (gonePlace p) 2 ∧ New w w' := by
  have hwd := width_any b cb wb cs ws th ct p w h
  rw [hw] at hwd
  have HW := Lib.hid hwd
  unfold gonePlace
  clear h hwd hw
  by_cases hp2 : p ≤ 4611686018427387904
  · rw [if_pos hp2]
    go_enter Tryd.func43, Tryd.ntmps43
    go_wp2_with (first
      | (go_at_call 62; refine HW.out.mono ?_; rintro e w' ⟨rfl, rfl⟩)
      | (go_at_call 40; refine (fail_any _ _ _).mono ?_; rintro e w1 ⟨eb, rfl, he, hn⟩))
    go_ret2
    exact ⟨eb, rfl, he, hn⟩
  · rw [if_neg hp2]
    go_enter Tryd.func43, Tryd.ntmps43
    go_wp2_with (first
      | (go_at_call 62; refine HW.out.mono ?_; rintro e w' ⟨rfl, rfl⟩)
      | (go_at_call 40; refine (fail_any _ _ _).mono ?_; rintro e w1 ⟨eb, rfl, he, hn⟩))
    go_ret2
    exact ⟨eb, rfl, he, hn⟩

/-- What an access tells, and what it leaves in its cell. -/
def accVal (cs ws : List Nat) (p : Nat) : Nat := if ws.getD p 0 = 0 then 0 else cs.getD p 0
def accErr (ws : List Nat) (p : Nat) : Option (Int × Int) := if ws.getD p 0 = 0 then some (gonePlace p, 2) else none
def accCs (kind : Nat) (cs ws : List Nat) (p o v : Nat) : List Nat := if ws.getD p 0 = 0 then cs else cs.set p (laidBy kind (ws.getD p 0) (cs.getD p 0) o v)
def accN (ws : List Nat) (p ct : Nat) : Nat := if ws.getD p 0 = 0 then ct else ct + 1

theorem there_lt {w : World} {b cb wb : Nat} {cs ws : List Nat} {th ct p : Nat} (h : MemRep w b cb wb cs ws th ct) (hw : ws.getD p 0 ≠ 0) : ws[p]? = some (ws.getD p 0) ∧ (ws.getD p 0 = 32 ∨ ws.getD p 0 = 64) ∧ cs[p]? = some (cs.getD p 0) := by
  have hl : p < ws.length := by
    rcases Nat.lt_or_ge p ws.length with hh | hh
    · exact hh
    · exact absurd (by rw [List.getD_eq_getElem?_getD, List.getElem?_eq_none hh]; rfl) hw
  have h1 := getD_get hl
  refine ⟨h1, ?_, getD_get (by rw [h.len.1]; exact hl)⟩
  have := h.wide _ (List.mem_of_getElem? h1)
  omega

set_option maxRecDepth 100000 in
theorem access_all (kind b cb wb : Nat) (cs ws : List Nat) (th ct p o v : Nat) (w : World) (hk : kind ≤ 4) (h : MemRep w b cb wb cs ws th ct) (hct : ct + 1 < 1000000000) (hv : v < 18446744073709551616) (ho : o < 18446744073709551616) (hp : p < 18446744073709551616) :
    Calls Tryd.prog 43 #[.pointer (some ⟨b, 0, none⟩), .int .i64 kind, .int .u64 p, .int .u64 o, .int .u64 v] w fun e w' => ∃ x, e = .returned (.tuple #[.int .u64 (accVal cs ws p : Nat), x]) ∧ Says w' memL x (accErr ws p) ∧
      MemRep w' b cb wb (accCs kind cs ws p o v) ws th (accN ws p ct) ∧ Fr (fun k => accErr ws p = none ∧ (k = b ∨ k = cb)) w w' := by
  unfold accVal accErr accCs accN
  by_cases hw : ws.getD p 0 = 0
  · simp only [if_pos hw]
    refine (access_gone kind b cb wb cs ws th ct p o v w h hw hp).mono ?_
    rintro e w1 ⟨eb, rfl, he, hn⟩
    exact ⟨_, rfl, he.says (by omega) (by omega), h.keep hn id id id, hn.mono (fun _ _ h => h.elim)⟩
  · simp only [if_neg hw]
    obtain ⟨h1, h2, h3⟩ := there_lt h hw
    refine (Go.Proofs.YtngpcalgjaglmaaDoor.access_any kind b cb wb cs ws th ct p _ _ o v w hk h h1 h2 h3 hct hv ho).mono ?_
    rintro e w1 ⟨rfl, hr, hf⟩
    exact ⟨_, rfl, rfl, hr, hf.mono (fun _ _ h => by simpa using h)⟩

set_option maxRecDepth 100000 in
set_option maxHeartbeats 400000 in
theorem load_all (b cb wb : Nat) (cs ws : List Nat) (th ct : Nat) (p : Nat) (w : World) (h : MemRep w b cb wb cs ws th ct) (hct : ct + 1 < 1000000000) (hp : p < 18446744073709551616) :
    Calls Tryd.prog 25 #[.pointer (some ⟨b, 0, none⟩), .int .u64 p] w fun e w' => ∃ x, e = .returned (.tuple #[.int .u64 (accVal cs ws p : Nat), x]) ∧ Says w' memL x (accErr ws p) ∧
      MemRep w' b cb wb (accCs 0 cs ws p 0 0) ws th (accN ws p ct) ∧ Fr (fun k => accErr ws p = none ∧ (k = b ∨ k = cb)) w w' := by
  have HM := Lib.hid (access_all 0 b cb wb cs ws th ct p 0 0 w (by omega) h hct (by omega) (by omega) hp)
  clear h
  go_enter Tryd.func25, Tryd.ntmps25
  go_wp2_with (go_at_call 43; refine HM.out.mono ?_; rintro e w' ⟨x, rfl, hx, hr, hf⟩)
  go_ret2
  exact ⟨x, rfl, hx, hr, hf⟩

set_option maxRecDepth 100000 in
set_option maxHeartbeats 400000 in
theorem swap_all (b cb wb : Nat) (cs ws : List Nat) (th ct : Nat) (p v : Nat) (w : World) (h : MemRep w b cb wb cs ws th ct) (hct : ct + 1 < 1000000000) (hv : v < 18446744073709551616) (hp : p < 18446744073709551616) :
    Calls Tryd.prog 92 #[.pointer (some ⟨b, 0, none⟩), .int .u64 p, .int .u64 v] w fun e w' => ∃ x, e = .returned (.tuple #[.int .u64 (accVal cs ws p : Nat), x]) ∧ Says w' memL x (accErr ws p) ∧
      MemRep w' b cb wb (accCs 2 cs ws p 0 v) ws th (accN ws p ct) ∧ Fr (fun k => accErr ws p = none ∧ (k = b ∨ k = cb)) w w' := by
  have HM := Lib.hid (access_all 2 b cb wb cs ws th ct p 0 v w (by omega) h hct (by omega) (by omega) hp)
  clear h
  go_enter Tryd.func92, Tryd.ntmps92
  go_wp2_with (go_at_call 43; refine HM.out.mono ?_; rintro e w' ⟨x, rfl, hx, hr, hf⟩)
  go_ret2
  exact ⟨x, rfl, hx, hr, hf⟩

set_option maxRecDepth 100000 in
set_option maxHeartbeats 400000 in
theorem add_all (b cb wb : Nat) (cs ws : List Nat) (th ct : Nat) (p v : Nat) (w : World) (h : MemRep w b cb wb cs ws th ct) (hct : ct + 1 < 1000000000) (hv : v < 18446744073709551616) (hp : p < 18446744073709551616) :
    Calls Tryd.prog 90 #[.pointer (some ⟨b, 0, none⟩), .int .u64 p, .int .u64 v] w fun e w' => ∃ x, e = .returned (.tuple #[.int .u64 (accVal cs ws p : Nat), x]) ∧ Says w' memL x (accErr ws p) ∧
      MemRep w' b cb wb (accCs 3 cs ws p 0 v) ws th (accN ws p ct) ∧ Fr (fun k => accErr ws p = none ∧ (k = b ∨ k = cb)) w w' := by
  have HM := Lib.hid (access_all 3 b cb wb cs ws th ct p 0 v w (by omega) h hct (by omega) (by omega) hp)
  clear h
  go_enter Tryd.func90, Tryd.ntmps90
  go_wp2_with (go_at_call 43; refine HM.out.mono ?_; rintro e w' ⟨x, rfl, hx, hr, hf⟩)
  go_ret2
  exact ⟨x, rfl, hx, hr, hf⟩

set_option maxRecDepth 100000 in
set_option maxHeartbeats 400000 in
theorem cas_all (b cb wb : Nat) (cs ws : List Nat) (th ct : Nat) (p o v : Nat) (w : World) (h : MemRep w b cb wb cs ws th ct) (hct : ct + 1 < 1000000000) (ho : o < 18446744073709551616) (hv : v < 18446744073709551616)(hp : p < 18446744073709551616) :
    Calls Tryd.prog 91 #[.pointer (some ⟨b, 0, none⟩), .int .u64 p, .int .u64 o, .int .u64 v] w fun e w' => ∃ x, e = .returned (.tuple #[.int .u64 (accVal cs ws p : Nat), x]) ∧ Says w' memL x (accErr ws p) ∧
      MemRep w' b cb wb (accCs 4 cs ws p o v) ws th (accN ws p ct) ∧ Fr (fun k => accErr ws p = none ∧ (k = b ∨ k = cb)) w w' := by
  have HM := Lib.hid (access_all 4 b cb wb cs ws th ct p o v w (by omega) h hct (by omega) (by omega) hp)
  clear h
  go_enter Tryd.func91, Tryd.ntmps91
  go_wp2_with (go_at_call 43; refine HM.out.mono ?_; rintro e w' ⟨x, rfl, hx, hr, hf⟩)
  go_ret2
  exact ⟨x, rfl, hx, hr, hf⟩

set_option maxRecDepth 100000 in
set_option maxHeartbeats 400000 in
theorem store_all (b cb wb : Nat) (cs ws : List Nat) (th ct : Nat) (p v : Nat) (w : World) (h : MemRep w b cb wb cs ws th ct) (hct : ct + 1 < 1000000000) (hv : v < 18446744073709551616) (hp : p < 18446744073709551616) :
    Calls Tryd.prog 23 #[.pointer (some ⟨b, 0, none⟩), .int .u64 p, .int .u64 v] w fun e w' => ∃ x, e = .returned x ∧ Says w' memL x (accErr ws p) ∧
      MemRep w' b cb wb (accCs 1 cs ws p 0 v) ws th (accN ws p ct) ∧ Fr (fun k => accErr ws p = none ∧ (k = b ∨ k = cb)) w w' := by
  have HM := Lib.hid (access_all 1 b cb wb cs ws th ct p 0 v w (by omega) h hct (by omega) (by omega) hp)
  clear h
  go_enter Tryd.func23, Tryd.ntmps23
  go_wp2_with (go_at_call 43; refine HM.out.mono ?_; rintro e w' ⟨x, rfl, hx, hr, hf⟩)
  go_ret
  exact ⟨x, rfl, hx, hr, hf⟩

end Go.Proofs.YtngpcalgjaglmaaDoor
