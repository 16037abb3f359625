/- A code checked: both sides tell the first instruction that may not be. -/
import Derived.Test.YtkpliapmllabaaaDoorCodeN
import Derived.Test.YtkpliapmllabaaaDoorCodeR
import Derived.Test.YtkpliapmllabaaaDoorSays
import Derived.Test.YtkpliapmllabaaaDoorRecs
namespace Go.Proofs.YtkpliapmllabaaaDoor
open Go.RowKit

abbrev codeL : ByteArray := ⟨#[99, 111, 100, 101]⟩
abbrev insKs : List IntKind := [.i64, .i64, .i64, .i64, .u64, .i64, .i64]
/-- May this instruction be, in a code of n? -/
def mayL (n : Int) (lib : Bool) (r : List Int) : Bool := mayB (r.getD 0 0) (r.getD 1 0) (r.getD 2 0) (r.getD 3 0) (r.getD 4 0) (r.getD 5 0) (r.getD 6 0) n lib
/-- The first that may not be, from place i on. -/
def firstNo (n : Int) (lib : Bool) : List (List Int) → Nat → Option (Int × Int)
  | [], _ => none
  | r :: l, i => if mayL n lib r then firstNo n lib l (i + 1) else some ((i : Int), 5)
def checkErr (rs : List (List Int)) (lib : Bool) : Option (Int × Int) := if 2048 < rs.length then some (0, 3) else firstNo rs.length lib rs 0

theorem firstNo_step (n : Int) (lib : Bool) (rs : List (List Int)) (k : Nat) (h : k < rs.length) : firstNo n lib (rs.drop k) k = if mayL n lib rs[k] then firstNo n lib (rs.drop (k + 1)) (k + 1) else some ((k : Int), 5) := by
  rw [List.drop_eq_getElem_cons h]; rfl

set_option maxRecDepth 100000 in
set_option maxHeartbeats 400000 in
theorem fail_any (n k : Int) (w : World) (h1 : 1 ≤ k) (h2 : k ≤ 10) :
    Calls Tryd.prog 30 #[.int .i64 n, .iface 44 (.int .i64 k)] w fun e w' => ∃ eb, e = .returned (.iface 67 (.pointer (some ⟨eb, 0, none⟩))) ∧ Says w' codeL (.iface 67 (.pointer (some ⟨eb, 0, none⟩))) (some (n, k)) ∧ New w w' := by
  go_enter Tryd.func30, Tryd.ntmps30
  go_wp2
  go_ret
  exact ⟨_, rfl, ⟨⟨_, _, rfl, block_alloc_new _ _, rfl⟩, h1, h2⟩, (Fr.refl _ _).alloc _⟩

/-- An instruction of a code, with its cells. -/
theorem ins_at {w : World} {ao : Option Addr} {rs : List (List Int)} {k : Nat} (h : Recs insKs w ao rs) (hf : ∀ r ∈ rs, RecOk insKs r) (hk : k < rs.length) :
    ∃ (o A B C : Int) (V : Nat) (M W : Int) (g off : Nat), rs[k] = [o, A, B, C, (V : Int), M, W] ∧ ao = some ⟨g, off, none⟩ ∧ g < w.heap.size ∧ V < 18446744073709551616 ∧
      w.cell? ⟨g, off + k * 7, none⟩ = some (.int .i64 o) ∧ w.cell? ⟨g, off + k * 7 + 1, none⟩ = some (.int .i64 A) ∧ w.cell? ⟨g, off + k * 7 + 2, none⟩ = some (.int .i64 B) ∧ w.cell? ⟨g, off + k * 7 + 3, none⟩ = some (.int .i64 C) ∧
      w.cell? ⟨g, off + k * 7 + 4, none⟩ = some (.int .u64 V) ∧ w.cell? ⟨g, off + k * 7 + 5, none⟩ = some (.int .i64 M) ∧ w.cell? ⟨g, off + k * 7 + 6, none⟩ = some (.int .i64 W) := by
  have hr : rs[k]? = some rs[k] := by simp [hk]
  obtain ⟨hl, hz⟩ := hf rs[k] (List.getElem_mem hk)
  generalize rs[k] = r at hr hl hz
  obtain ⟨g, off, e, hg, hc⟩ := h k r hr
  match r, hl with
  | [o, A, B, C, V, M, W], _ =>
    have b4 := bounds_u64 (hz 4 _ .u64 rfl rfl)
    have c4 := hc 4 _ _ rfl rfl
    obtain ⟨V, rfl⟩ := Int.eq_ofNat_of_zero_le b4.1
    exact ⟨o, A, B, C, V, M, W, g, off, rfl, e, hg, by omega, hc 0 _ _ rfl rfl, hc 1 _ _ rfl rfl, hc 2 _ _ rfl rfl, hc 3 _ _ rfl rfl, c4, hc 5 _ _ rfl rfl, hc 6 _ _ rfl rfl⟩

set_option maxRecDepth 100000 in
set_option maxHeartbeats 2000000 in
theorem check_any (rs : List (List Int)) (ao : Option Addr) (cap : Nat) (lib : Bool) (w : World) (hfit : ∀ r ∈ rs, RecOk insKs r) (hc : Recs insKs w ao rs) (hm : rs.length ≤ 9223372036854775807) :
    Calls Tryd.prog 13 #[.slice ao rs.length cap, .bool lib] w fun e w' => ∃ v, e = .returned v ∧ Says w' codeL v (checkErr rs lib) ∧ New w w' := by
  obtain ⟨L, hL⟩ : ∃ L, rs.length = L := ⟨_, rfl⟩
  have HC := Lib.hid hc
  have HFIT := Lib.hid hfit
  have HL := Lib.hid hL
  unfold checkErr
  rw [hL] at hm ⊢
  clear hc hfit hL
  by_cases hbig : 2048 < L
  · rw [if_pos hbig]
    go_enter Tryd.func13, Tryd.ntmps13
    go_wp2_with (go_at_call 30; refine (fail_any _ _ _ (by omega) (by omega)).mono ?_; rintro e w1 ⟨eb, rfl, he, hn⟩)
    go_ret
    exact ⟨_, rfl, he, hn⟩
  · rw [if_neg hbig]
    generalize hR : firstNo (L : Int) lib rs 0 = R
    have HR := Lib.hid hR
    clear hR
    go_enter Tryd.func13, Tryd.ntmps13
    go_wp2_with fail
    go_loopw [14] (fun i wr => ∃ k : Nat, k ≤ L ∧ i = .int .i64 k ∧ firstNo (L : Int) lib (rs.drop k) k = R ∧ New w wr) (fun i _ => L - (intOf i).toNat)
    case atStart => exact ⟨0, by omega, rfl, HR.out, Fr.refl _ _⟩
    case round =>
      obtain ⟨k, hk, rfl, hr, hn⟩ := hrel
      have HN := Lib.hid hn
      by_cases hlt : k < L
      · have hst := firstNo_step (L : Int) lib rs k (by rw [HL.out]; exact hlt)
        rw [hr] at hst
        obtain ⟨o, A, B, C, V, M, W, g, off, e0, rfl, hg1, hV, c0, c1, c2, c3, c4, c5, c6⟩ := ins_at (k := k) (HC.out.keep hn) HFIT.out (by rw [HL.out]; exact hlt)
        have hmay := fun w => may_any o A B C M W V L lib w hV (by omega)
        rw [e0, show mayL (L : Int) lib [o, A, B, C, (V : Int), M, W] = mayB o A B C V M W L lib from rfl] at hst
        cases hb : mayB o A B C V M W L lib with
        | true =>
          rw [hb] at hmay hst
          simp only [if_true] at hst
          have HST := Lib.hid hst
          have HM := Lib.hid hmay
          clear hst hmay hb hr hn e0
          go_wp2_with (go_at_call 31; refine (HM.out _).mono ?_; rintro e w1 ⟨rfl, hn1⟩)
          go_roundw
          case rel => exact ⟨k + 1, by omega, by go_num, HST.out.symm, (HN.out.alloc _).trans hn1⟩
          case measure => simp [intOf]; omega
        | false =>
          rw [hb] at hmay hst
          simp only [Bool.false_eq_true, if_false] at hst
          have HST := Lib.hid hst
          have HM := Lib.hid hmay
          clear hst hmay hb hr hn e0
          go_wp2_with (first
            | (go_at_call 31; refine (HM.out _).mono ?_; rintro e w1 ⟨rfl, hn1⟩)
            | (go_at_call 30; refine (fail_any _ _ _ (by omega) (by omega)).mono ?_; rintro e w2 ⟨eb, rfl, he, hn2⟩))
          go_ret
          exact ⟨_, rfl, by rw [HST.out]; exact he, ((HN.out.alloc _).trans hn1).trans hn2⟩
      · have hke : k = L := by omega
        rw [hke, List.drop_eq_nil_of_le (by rw [HL.out]; omega)] at hr
        have HRR := Lib.hid hr
        clear hr hn hke
        go_wp2
        go_ret
        exact ⟨_, rfl, by rw [← HRR.out]; rfl, HN.out⟩

set_option maxRecDepth 100000 in
set_option maxHeartbeats 2000000 in
theorem rcheck_any (rs : List (List Int)) (ao : Option Addr) (cap : Nat) (lib : Bool) (w : World) (hfit : ∀ r ∈ rs, RecOk insKs r) (hc : Recs insKs w ao rs) (hm : rs.length ≤ 9223372036854775807) :
    Calls Tryd.prog 14 #[.slice ao rs.length cap, .bool lib] w fun e w' => ∃ f, e = .returned f ∧ SaysF w' codeL f (checkErr rs lib) ∧ New w w' := by
  obtain ⟨L, hL⟩ : ∃ L, rs.length = L := ⟨_, rfl⟩
  have HC := Lib.hid hc
  have HFIT := Lib.hid hfit
  have HL := Lib.hid hL
  unfold checkErr
  rw [hL] at hm ⊢
  clear hc hfit hL
  have hno := fun n k w => no_any codeL n k w
  have HNO := Lib.hid hno
  clear hno
  by_cases hbig : 2048 < L
  · rw [if_pos hbig]
    go_enter Tryd.func14, Tryd.ntmps14
    go_wp2_with (go_at_call 20; refine (HNO.out _ _ _).mono ?_; rintro e w1 ⟨f, rfl, he, hn⟩)
    go_ret
    exact ⟨_, rfl, he, hn⟩
  · rw [if_neg hbig]
    generalize hR : firstNo (L : Int) lib rs 0 = R
    have HR := Lib.hid hR
    clear hR
    go_enter Tryd.func14, Tryd.ntmps14
    go_wp2_with fail
    go_loopw [5] (fun i wr => ∃ k : Nat, k ≤ L ∧ i = .int .i64 k ∧ firstNo (L : Int) lib (rs.drop k) k = R ∧ New w wr) (fun i _ => L - (intOf i).toNat)
    case atStart => exact ⟨0, by omega, rfl, HR.out, Fr.refl _ _⟩
    case round =>
      obtain ⟨k, hk, rfl, hr, hn⟩ := hrel
      have HN := Lib.hid hn
      by_cases hlt : k < L
      · have hst := firstNo_step (L : Int) lib rs k (by rw [HL.out]; exact hlt)
        rw [hr] at hst
        obtain ⟨o, A, B, C, V, M, W, g, off, e0, rfl, hg1, hV, c0, c1, c2, c3, c4, c5, c6⟩ := ins_at (k := k) (HC.out.keep hn) HFIT.out (by rw [HL.out]; exact hlt)
        have hmay := fun w => right_any o A B C M W V L lib w hV (by omega)
        rw [e0, show mayL (L : Int) lib [o, A, B, C, (V : Int), M, W] = mayB o A B C V M W L lib from rfl] at hst
        cases hb : mayB o A B C V M W L lib with
        | true =>
          rw [hb] at hmay hst
          simp only [if_true] at hst
          have HST := Lib.hid hst
          have HM := Lib.hid hmay
          clear hst hmay hb hr hn e0
          go_wp2_with (go_at_call 32; refine (HM.out _).mono ?_; rintro e w1 ⟨rfl, hn1⟩)
          go_roundw
          case rel => exact ⟨k + 1, by omega, by go_num, HST.out.symm, HN.out.trans hn1⟩
          case measure => simp [intOf]; omega
        | false =>
          rw [hb] at hmay hst
          simp only [Bool.false_eq_true, if_false] at hst
          have HST := Lib.hid hst
          have HM := Lib.hid hmay
          clear hst hmay hb hr hn e0
          go_wp2_with (first
            | (go_at_call 32; refine (HM.out _).mono ?_; rintro e w1 ⟨rfl, hn1⟩)
            | (go_at_call 20; refine (HNO.out _ _ _).mono ?_; rintro e w2 ⟨f, rfl, he, hn2⟩))
          go_ret
          exact ⟨_, rfl, by rw [HST.out]; exact he, (HN.out.trans hn1).trans hn2⟩
      · have hke : k = L := by omega
        rw [hke, List.drop_eq_nil_of_le (by rw [HL.out]; omega)] at hr
        have HRR := Lib.hid hr
        clear hr hn hke
        go_wp2
        go_ret
        exact ⟨_, rfl, by rw [← HRR.out]; rfl, HN.out⟩

end Go.Proofs.YtkpliapmllabaaaDoor
