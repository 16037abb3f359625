/- Whether an instruction may be, in a library's code of so many or a client's: the machine's own question. -/
import Derived.Test.YtngpcalgjaglmaaDoorCodeN
import Derived.Test.YtngpcalgjaglmaaDoorVmA
namespace Go.Proofs.YtngpcalgjaglmaaDoor
open Go.RowKit

set_option maxRecDepth 100000 in
set_option maxHeartbeats 400000 in
theorem cfail_form (n k : Int) (w : World) :
    Calls Tryd.prog 64 #[.int .i64 n, .iface 55 (.int .i64 k)] w fun e w' => (∃ eb, e = .returned (.iface 88 (.pointer (some ⟨eb, 0, none⟩)))) ∧ New w w' := by
  go_enter Tryd.func64, Tryd.ntmps64
  go_wp2
  go_ret
  exact ⟨⟨_, rfl⟩, (Fr.refl _ _).alloc _⟩

/-- What a check of one instruction hands back. -/
def CkRes (b : Bool) (v : Value) : Prop := match b with | true => v = .nilIface | false => ∃ eb, v = .iface 88 (.pointer (some ⟨eb, 0, none⟩))
set_option maxRecDepth 100000 in
set_option maxHeartbeats 2000000 in
theorem check1_any (o A B C : Int) (V : Nat) (M W : Int) (lib : Bool) (g : Nat) (w : World) (hV : V < 18446744073709551616) (h : w.heap[g]? = some (.cells #[.int .i64 o, .int .i64 A, .int .i64 B, .int .i64 C, .int .u64 V, .int .i64 M, .int .i64 W] 52 (0, 0))) :
    Calls Tryd.prog 47 #[.slice (some ⟨g, 0, none⟩) 1 1, .bool lib] w fun e w' => (∃ v, e = .returned v ∧ CkRes (mayB o A B C V M W 1 lib) v) ∧ New w w' := by
  have hmay := fun w => may_any o A B C M W V 1 lib w hV (by omega)
  rw [show ((1 : Nat) : Int) = 1 from rfl] at hmay
  have hl := lt_of_block h
  have HC := Lib.hid (fun (w' : World) (f : New w w') (i : Nat) => (f.cell hl id i).trans (cell_of_block h i))
  clear h
  cases hb : mayB o A B C V M W 1 lib with
  | true =>
    rw [hb] at hmay
    have HM := Lib.hid hmay
    clear hmay hb
    go_enter Tryd.func47, Tryd.ntmps47
    go_wp2_with fail
    go_loopw [14] (fun i wr => ∃ k : Nat, k ≤ 1 ∧ i = .int .i64 k ∧ New w wr) (fun i _ => 1 - (intOf i).toNat)
    case atStart => exact ⟨0, by omega, rfl, Fr.refl _ _⟩
    case round =>
      obtain ⟨k, hk, rfl, hn⟩ := hrel
      have HN := Lib.hid hn
      rcases (show k = 0 ∨ k = 1 by omega) with rfl | rfl
      · have c0 : wr.cell? ⟨g, 0, none⟩ = some (.int .i64 o) := HC.out wr hn 0
        have c1 : wr.cell? ⟨g, 1, none⟩ = some (.int .i64 A) := HC.out wr hn 1
        have c2 : wr.cell? ⟨g, 2, none⟩ = some (.int .i64 B) := HC.out wr hn 2
        have c3 : wr.cell? ⟨g, 3, none⟩ = some (.int .i64 C) := HC.out wr hn 3
        have c4 : wr.cell? ⟨g, 4, none⟩ = some (.int .u64 V) := HC.out wr hn 4
        have c5 : wr.cell? ⟨g, 5, none⟩ = some (.int .i64 M) := HC.out wr hn 5
        have c6 : wr.cell? ⟨g, 6, none⟩ = some (.int .i64 W) := HC.out wr hn 6
        clear hn
        rw [show ((0 : Nat) : Int) = 0 from rfl]
        go_wp2_with (go_at_call 65; refine (HM.out _).mono ?_; rintro e w1 ⟨rfl, hn1⟩)
        go_roundw
        case rel => exact ⟨1, by omega, rfl, (HN.out.alloc _).trans hn1⟩
        case measure => simp [intOf]
      · clear hn
        rw [show ((1 : Nat) : Int) = 1 from rfl]
        go_wp2
        go_ret
        exact ⟨⟨_, rfl, rfl⟩, HN.out⟩
  | false =>
    rw [hb] at hmay
    have HM := Lib.hid hmay
    clear hmay hb
    go_enter Tryd.func47, Tryd.ntmps47
    go_wp2_with fail
    go_loopw [14] (fun i wr => i = .int .i64 0 ∧ New w wr) (fun i _ => 1 - (intOf i).toNat)
    case atStart => exact ⟨rfl, Fr.refl _ _⟩
    case round =>
      obtain ⟨rfl, hn⟩ := hrel
      have HN := Lib.hid hn
      have c0 : wr.cell? ⟨g, 0, none⟩ = some (.int .i64 o) := HC.out wr hn 0
      have c1 : wr.cell? ⟨g, 1, none⟩ = some (.int .i64 A) := HC.out wr hn 1
      have c2 : wr.cell? ⟨g, 2, none⟩ = some (.int .i64 B) := HC.out wr hn 2
      have c3 : wr.cell? ⟨g, 3, none⟩ = some (.int .i64 C) := HC.out wr hn 3
      have c4 : wr.cell? ⟨g, 4, none⟩ = some (.int .u64 V) := HC.out wr hn 4
      have c5 : wr.cell? ⟨g, 5, none⟩ = some (.int .i64 M) := HC.out wr hn 5
      have c6 : wr.cell? ⟨g, 6, none⟩ = some (.int .i64 W) := HC.out wr hn 6
      clear hn
      go_wp2_with (first
        | (go_at_call 65; refine (HM.out _).mono ?_; rintro e w1 ⟨rfl, hn1⟩)
        | (go_at_call 64; refine (cfail_form _ _ _).mono ?_; rintro e w2 ⟨⟨eb, rfl⟩, hn2⟩))
      go_ret
      exact ⟨⟨_, rfl, ⟨_, rfl⟩⟩, ((HN.out.alloc _).trans hn1).trans hn2⟩

theorem mayB_plc (o A B C : Int) (V n : Nat) (lib : Bool) (h : plc o = true) : mayB o A B C V 0 0 n lib = (decide (V < n) && mayB o A B C 0 0 0 1 lib) := by
  have e1 : ∀ v, numB o B C V n v = decide (V < n) := fun v => by
    unfold numB numP
    rw [Bool.eq_iff_iff]
    simp only [h, decide_eq_true_eq]
    simp
  have e2 : ∀ v, numB o B C 0 1 v = true := fun v => by
    unfold numB numP
    simp [h]
  unfold mayB restB
  rw [e1, e2, Bool.true_and]
  cases headB o 0 lib <;> cases regB A (fA o) false <;> cases regB B (fB o) (noB o) <;> cases regB C (fC o) (noC o) <;> simp
theorem mayB_not (o A B C : Int) (V n : Nat) (lib : Bool) (h : plc o = false) : mayB o A B C V 0 0 n lib = mayB o A B C V 0 0 1 lib := by
  have e1 : ∀ v, numB o B C V n v = numB o B C V 1 v := fun v => by
    unfold numB numP
    simp only [h]
    simp
  unfold mayB restB
  rw [e1]

set_option maxRecDepth 100000 in
set_option maxHeartbeats 2000000 in
theorem vmay_any (o A B C : Int) (V : Nat) (M W : Int) (n : Nat) (w : World) (hV : V < 18446744073709551616) (hn1 : 1 ≤ n) (hn : n ≤ 9223372036854775807) :
    Calls Tryd.prog 26 #[insV o A B C V M W, .int .i64 n] w fun e w' => e = .returned (.bool (mayB o A B C V 0 0 n (o != 22))) ∧ New w w' := by
  by_cases hp : o = 12 ∨ o = 13 ∨ o = 14 ∨ o = 15
  · by_cases hlt : V < n
    · rcases hp with rfl | rfl | rfl | rfl
      · rw [mayB_plc 12 A B C V n _ (by decide), decide_eq_true hlt, Bool.true_and, show ((12 : Int) != 22) = true from rfl]
        have HCK := Lib.hid (fun g w' h => check1_any 12 A B C 0 0 0 true g w' (by omega) h)
        rw [show ((0 : Nat) : Int) = 0 from rfl] at HCK
        generalize mayB 12 A B C 0 0 0 1 true = m at HCK ⊢
        have tw : IntKind.u64.wrap (n : Int) = (n : Int) := IntWalk.u64_in _ (by omega)
        have tq : ¬ ((n : Int) ≤ (V : Int)) := by omega
        go_enter Tryd.func26, Tryd.ntmps26
        go_wp2_with fail
        refine (HCK.out _ _ (block_alloc_new1 _ _ _)).mono ?_
        rintro e w' ⟨⟨v, rfl, hv⟩, hn⟩
        have HN := Lib.hid ((((Fr.refl (fun _ => False) w).alloc (.cells #[.int .i64 12, .int .i64 A, .int .i64 B, .int .i64 C, .int .u64 0, .int .i64 0, .int .i64 0] 52)).alloc (.cells #[.int .i64 12, .int .i64 A, .int .i64 B, .int .i64 C, .int .u64 0, .int .i64 0, .int .i64 0] 52)).trans hn)
        clear hn HCK
        cases m with
        | true =>
          obtain rfl : v = .nilIface := hv
          go_wp2
          go_ret
          exact ⟨rfl, HN.out⟩
        | false =>
          obtain ⟨eb, rfl⟩ : ∃ eb, v = .iface 88 (.pointer (some ⟨eb, 0, none⟩)) := hv
          go_wp2
          go_ret
          exact ⟨rfl, HN.out⟩
      · rw [mayB_plc 13 A B C V n _ (by decide), decide_eq_true hlt, Bool.true_and, show ((13 : Int) != 22) = true from rfl]
        have HCK := Lib.hid (fun g w' h => check1_any 13 A B C 0 0 0 true g w' (by omega) h)
        rw [show ((0 : Nat) : Int) = 0 from rfl] at HCK
        generalize mayB 13 A B C 0 0 0 1 true = m at HCK ⊢
        have tw : IntKind.u64.wrap (n : Int) = (n : Int) := IntWalk.u64_in _ (by omega)
        have tq : ¬ ((n : Int) ≤ (V : Int)) := by omega
        go_enter Tryd.func26, Tryd.ntmps26
        go_wp2_with fail
        refine (HCK.out _ _ (block_alloc_new1 _ _ _)).mono ?_
        rintro e w' ⟨⟨v, rfl, hv⟩, hn⟩
        have HN := Lib.hid ((((Fr.refl (fun _ => False) w).alloc (.cells #[.int .i64 13, .int .i64 A, .int .i64 B, .int .i64 C, .int .u64 0, .int .i64 0, .int .i64 0] 52)).alloc (.cells #[.int .i64 13, .int .i64 A, .int .i64 B, .int .i64 C, .int .u64 0, .int .i64 0, .int .i64 0] 52)).trans hn)
        clear hn HCK
        cases m with
        | true =>
          obtain rfl : v = .nilIface := hv
          go_wp2
          go_ret
          exact ⟨rfl, HN.out⟩
        | false =>
          obtain ⟨eb, rfl⟩ : ∃ eb, v = .iface 88 (.pointer (some ⟨eb, 0, none⟩)) := hv
          go_wp2
          go_ret
          exact ⟨rfl, HN.out⟩
      · rw [mayB_plc 14 A B C V n _ (by decide), decide_eq_true hlt, Bool.true_and, show ((14 : Int) != 22) = true from rfl]
        have HCK := Lib.hid (fun g w' h => check1_any 14 A B C 0 0 0 true g w' (by omega) h)
        rw [show ((0 : Nat) : Int) = 0 from rfl] at HCK
        generalize mayB 14 A B C 0 0 0 1 true = m at HCK ⊢
        have tw : IntKind.u64.wrap (n : Int) = (n : Int) := IntWalk.u64_in _ (by omega)
        have tq : ¬ ((n : Int) ≤ (V : Int)) := by omega
        go_enter Tryd.func26, Tryd.ntmps26
        go_wp2_with fail
        refine (HCK.out _ _ (block_alloc_new1 _ _ _)).mono ?_
        rintro e w' ⟨⟨v, rfl, hv⟩, hn⟩
        have HN := Lib.hid ((((Fr.refl (fun _ => False) w).alloc (.cells #[.int .i64 14, .int .i64 A, .int .i64 B, .int .i64 C, .int .u64 0, .int .i64 0, .int .i64 0] 52)).alloc (.cells #[.int .i64 14, .int .i64 A, .int .i64 B, .int .i64 C, .int .u64 0, .int .i64 0, .int .i64 0] 52)).trans hn)
        clear hn HCK
        cases m with
        | true =>
          obtain rfl : v = .nilIface := hv
          go_wp2
          go_ret
          exact ⟨rfl, HN.out⟩
        | false =>
          obtain ⟨eb, rfl⟩ : ∃ eb, v = .iface 88 (.pointer (some ⟨eb, 0, none⟩)) := hv
          go_wp2
          go_ret
          exact ⟨rfl, HN.out⟩
      · rw [mayB_plc 15 A B C V n _ (by decide), decide_eq_true hlt, Bool.true_and, show ((15 : Int) != 22) = true from rfl]
        have HCK := Lib.hid (fun g w' h => check1_any 15 A B C 0 0 0 true g w' (by omega) h)
        rw [show ((0 : Nat) : Int) = 0 from rfl] at HCK
        generalize mayB 15 A B C 0 0 0 1 true = m at HCK ⊢
        have tw : IntKind.u64.wrap (n : Int) = (n : Int) := IntWalk.u64_in _ (by omega)
        have tq : ¬ ((n : Int) ≤ (V : Int)) := by omega
        go_enter Tryd.func26, Tryd.ntmps26
        go_wp2_with fail
        refine (HCK.out _ _ (block_alloc_new1 _ _ _)).mono ?_
        rintro e w' ⟨⟨v, rfl, hv⟩, hn⟩
        have HN := Lib.hid ((((Fr.refl (fun _ => False) w).alloc (.cells #[.int .i64 15, .int .i64 A, .int .i64 B, .int .i64 C, .int .u64 0, .int .i64 0, .int .i64 0] 52)).alloc (.cells #[.int .i64 15, .int .i64 A, .int .i64 B, .int .i64 C, .int .u64 0, .int .i64 0, .int .i64 0] 52)).trans hn)
        clear hn HCK
        cases m with
        | true =>
          obtain rfl : v = .nilIface := hv
          go_wp2
          go_ret
          exact ⟨rfl, HN.out⟩
        | false =>
          obtain ⟨eb, rfl⟩ : ∃ eb, v = .iface 88 (.pointer (some ⟨eb, 0, none⟩)) := hv
          go_wp2
          go_ret
          exact ⟨rfl, HN.out⟩
    · rcases hp with rfl | rfl | rfl | rfl
      · rw [mayB_plc 12 A B C V n _ (by decide), decide_eq_false hlt, Bool.false_and]
        have tw : IntKind.u64.wrap (n : Int) = (n : Int) := IntWalk.u64_in _ (by omega)
        have tq : (n : Int) ≤ (V : Int) := by omega
        go_enter Tryd.func26, Tryd.ntmps26
        go_wp2_with fail
        go_ret
        exact ⟨rfl, (Fr.refl _ _).alloc _⟩
      · rw [mayB_plc 13 A B C V n _ (by decide), decide_eq_false hlt, Bool.false_and]
        have tw : IntKind.u64.wrap (n : Int) = (n : Int) := IntWalk.u64_in _ (by omega)
        have tq : (n : Int) ≤ (V : Int) := by omega
        go_enter Tryd.func26, Tryd.ntmps26
        go_wp2_with fail
        go_ret
        exact ⟨rfl, (Fr.refl _ _).alloc _⟩
      · rw [mayB_plc 14 A B C V n _ (by decide), decide_eq_false hlt, Bool.false_and]
        have tw : IntKind.u64.wrap (n : Int) = (n : Int) := IntWalk.u64_in _ (by omega)
        have tq : (n : Int) ≤ (V : Int) := by omega
        go_enter Tryd.func26, Tryd.ntmps26
        go_wp2_with fail
        go_ret
        exact ⟨rfl, (Fr.refl _ _).alloc _⟩
      · rw [mayB_plc 15 A B C V n _ (by decide), decide_eq_false hlt, Bool.false_and]
        have tw : IntKind.u64.wrap (n : Int) = (n : Int) := IntWalk.u64_in _ (by omega)
        have tq : (n : Int) ≤ (V : Int) := by omega
        go_enter Tryd.func26, Tryd.ntmps26
        go_wp2_with fail
        go_ret
        exact ⟨rfl, (Fr.refl _ _).alloc _⟩
  · have hplc : plc o = false := by
      unfold plc
      simp
      omega
    rw [mayB_not o A B C V n _ hplc]
    have t1 : (o == 12) = false := by rw [beq_eq_false_iff_ne]; omega
    have t2 : (o == 13) = false := by rw [beq_eq_false_iff_ne]; omega
    have t3 : (o == 14) = false := by rw [beq_eq_false_iff_ne]; omega
    have t4 : (o == 15) = false := by rw [beq_eq_false_iff_ne]; omega
    obtain ⟨x, hx⟩ : ∃ x, (o != 22) = x := ⟨_, rfl⟩
    rw [hx]
    have HCK := Lib.hid (fun g w' h => check1_any o A B C V 0 0 x g w' hV h)
    generalize mayB o A B C V 0 0 1 x = m at HCK ⊢
    clear hp hplc
    go_enter Tryd.func26, Tryd.ntmps26
    go_wp2_with fail
    refine (HCK.out _ _ (block_alloc_new1 _ _ _)).mono ?_
    rintro e w' ⟨⟨v, rfl, hv⟩, hn⟩
    have HN := Lib.hid ((((Fr.refl (fun _ => False) w).alloc (.cells #[.int .i64 o, .int .i64 A, .int .i64 B, .int .i64 C, .int .u64 V, .int .i64 0, .int .i64 0] 52)).alloc (.cells #[.int .i64 o, .int .i64 A, .int .i64 B, .int .i64 C, .int .u64 V, .int .i64 0, .int .i64 0] 52)).trans hn)
    clear hn HCK t1 t2 t3 t4 hx
    cases m with
    | true =>
      obtain rfl : v = .nilIface := hv
      go_wp2
      go_ret
      exact ⟨rfl, HN.out⟩
    | false =>
      obtain ⟨eb, rfl⟩ : ∃ eb, v = .iface 88 (.pointer (some ⟨eb, 0, none⟩)) := hv
      go_wp2
      go_ret
      exact ⟨rfl, HN.out⟩

end Go.Proofs.YtngpcalgjaglmaaDoor
