/- An instruction that may be may not, once a field that it doesn't use is set, or a register is none: the statement's walk. -/
import Derived.Test.YtkpliapmllabaaaDoorCodeW
import Derived.Test.YtkpliapmllabaaaDoorWithin
import Derived.IntWalk
import Derived.Deep.DeepCutAuto
namespace Go.Proofs.YtkpliapmllabaaaDoor
open Go.RowKit

theorem regB_bad {r b : Int} {u l : Bool} (h : if u = true then r = 31 + b else r = b) (hb : 1 ≤ b) : regB r u l = false := by
  refine decide_eq_false ?_
  unfold regP
  cases u with
  | true => rw [if_pos rfl] at h; subst h; rintro (h | h | h) <;> simp at h <;> omega
  | false => rw [if_neg (by simp)] at h; subst h; rintro (h | h | h) <;> simp at h; omega
theorem may_A {o A B C V M W n b : Int} {lib : Bool} (h : if fA o = true then A = 31 + b else A = b) (hb : 1 ≤ b) : mayB o A B C V M W n lib = false := by
  unfold mayB restB
  rw [regB_bad h hb]; simp
theorem may_B {o A B C V M W n b : Int} {lib : Bool} (h : if fB o = true then B = 31 + b else B = b) (hb : 1 ≤ b) : mayB o A B C V M W n lib = false := by
  unfold mayB restB
  rw [regB_bad h hb]; simp
theorem may_C {o A B C V M W n b : Int} {lib : Bool} (h : if fC o = true then C = 31 + b else C = b) (hb : 1 ≤ b) : mayB o A B C V M W n lib = false := by
  unfold mayB restB
  rw [regB_bad h hb]; simp
theorem may_V {o A B C V M W n b : Int} {lib : Bool} (h : fV o = false) (hb : 1 ≤ b) : mayB o A B C b M W n lib = false := by
  have hn : numB o B C b n (fV o) = false := by
    obtain ⟨f1, f2, f3, f4⟩ := fit4 o
    refine decide_eq_false ?_
    unfold numP
    rw [h] at *
    rintro (⟨h1, _⟩ | ⟨_, h1, _⟩ | ⟨_, _, h1⟩)
    · have := f1 h1; simp at this
    · have := f4 h1; cases this
    · rcases h1 with ⟨h2, _⟩ | ⟨_, h2, _⟩ | ⟨_, _, h2⟩ | h2
      · have := f2 h2; simp at this
      · have := f3 h2; cases this
      · cases h2
      · omega
  unfold mayB restB
  rw [hn]; simp
theorem recOk_upd {o A B C V M W A' B' C' : Int} (h : RecOk insKs [o, A, B, C, V, M, W]) (ha : -9223372036854775808 ≤ A' ∧ A' ≤ 9223372036854775807) (hb : -9223372036854775808 ≤ B' ∧ B' ≤ 9223372036854775807) (hc : -9223372036854775808 ≤ C' ∧ C' ≤ 9223372036854775807) (V' : Int) (hv : 0 ≤ V' ∧ V' ≤ 18446744073709551615) : RecOk insKs [o, A', B', C', V', M, W] := by
  have g : ∀ z : Int, -9223372036854775808 ≤ z ∧ z ≤ 9223372036854775807 → (Lit.int .i64 z).wf = true := fun z hz => by
    simp [Lit.wf, IntKind.min, IntKind.max, IntKind.signed, IntKind.bits]; omega
  exact recOk_of ⟨h.2 0 _ _ rfl rfl, g _ ha, g _ hb, g _ hc, by simp [Lit.wf, IntKind.min, IntKind.max, IntKind.signed, IntKind.bits]; omega, h.2 5 _ _ rfl rfl, h.2 6 _ _ rfl rfl⟩
def insL (o A B C : Int) (V : Int) (M W : Int) : List Value := [.int .i64 o, .int .i64 A, .int .i64 B, .int .i64 C, .int .u64 V, .int .i64 M, .int .i64 W]

theorem insL_at {w : World} {b : Nat} {o A B C V M W : Int} (h : Arr w b (insL o A B C V M W)) : w.cell? ⟨b, 0, none⟩ = some (.int .i64 o) ∧ w.cell? ⟨b, 1, none⟩ = some (.int .i64 A) ∧ w.cell? ⟨b, 2, none⟩ = some (.int .i64 B) ∧ w.cell? ⟨b, 3, none⟩ = some (.int .i64 C) ∧ w.cell? ⟨b, 4, none⟩ = some (.int .u64 V) ∧ w.cell? ⟨b, 5, none⟩ = some (.int .i64 M) ∧ w.cell? ⟨b, 6, none⟩ = some (.int .i64 W) :=
  ⟨h.cell 0 _ rfl, h.cell 1 _ rfl, h.cell 2 _ rfl, h.cell 3 _ rfl, h.cell 4 _ rfl, h.cell 5 _ rfl, h.cell 6 _ rfl⟩
theorem unused_u {o A B C M W b : Int} {V n : Nat} (hf : RecOk insKs [o, A, B, C, (V : Int), M, W]) (hn1 : 1 ≤ n) (hn2 : n ≤ 64) (hb1 : 1 ≤ b) (hb2 : b ≤ 1000000) (hv : fV o = false) :
    ∀ w, Calls Tryd.prog 19 #[insV o A B C b M W, .int .i64 n, .bool true] w fun e w' => e = .returned (.bool false) ∧ New w w' := by
  intro w
  have bA := bounds_i64 (hf.2 1 _ _ rfl rfl)
  have bB := bounds_i64 (hf.2 2 _ _ rfl rfl)
  have bC := bounds_i64 (hf.2 3 _ _ rfl rfl)
  obtain ⟨k, rfl⟩ := Int.eq_ofNat_of_zero_le (show 0 ≤ b by omega)
  have := right1_any o A B C M W k n true w (recOk_upd hf (by omega) (by omega) (by omega) k (by omega)) hn1 hn2
  rwa [may_V (V := 0) hv hb1] at this
theorem arr_cast {w : World} {b : Nat} {xs ys : List Value} (h : Arr w b xs) (e : xs = ys) : Arr w b ys := e ▸ h
/-- The three copies. -/
theorem unused_mem {o A B C M W : Int} {V : Nat} {W3 : World} (w1 : World) (h : (((w1.alloc (.cells #[.int .i64 o, .int .i64 A, .int .i64 B, .int .i64 C, .int .u64 V, .int .i64 M, .int .i64 W] 42)).alloc (.cells #[.int .i64 o, .int .i64 A, .int .i64 B, .int .i64 C, .int .u64 V, .int .i64 M, .int .i64 W] 42)).alloc (.cells #[.int .i64 o, .int .i64 A, .int .i64 B, .int .i64 C, .int .u64 V, .int .i64 M, .int .i64 W] 42)).drew = W3) :
    New w1 W3 ∧ Arr W3 w1.heap.size (insL o A B C V M W) ∧ Arr W3 (w1.heap.size + 1) (insL o A B C V M W) ∧ Arr W3 (w1.heap.size + 1 + 1) (insL o A B C V M W) := by
  subst h
  refine ⟨((((Fr.refl _ _).alloc _).alloc _).alloc _).drew, (((Arr.new w1 _ _).alloc _).alloc _).drew, ?_, ?_⟩
  · have := Arr.new (w1.alloc (.cells #[.int .i64 o, .int .i64 A, .int .i64 B, .int .i64 C, .int .u64 V, .int .i64 M, .int .i64 W] 42)) #[.int .i64 o, .int .i64 A, .int .i64 B, .int .i64 C, .int .u64 V, .int .i64 M, .int .i64 W] 42
    rw [World.size_alloc] at this
    exact (this.alloc _).drew
  · have := Arr.new ((w1.alloc (.cells #[.int .i64 o, .int .i64 A, .int .i64 B, .int .i64 C, .int .u64 V, .int .i64 M, .int .i64 W] 42)).alloc (.cells #[.int .i64 o, .int .i64 A, .int .i64 B, .int .i64 C, .int .u64 V, .int .i64 M, .int .i64 W] 42)) #[.int .i64 o, .int .i64 A, .int .i64 B, .int .i64 C, .int .u64 V, .int .i64 M, .int .i64 W] 42
    rw [World.size_alloc, World.size_alloc] at this
    exact this.drew
/-- None of the three may be. -/
theorem unused_right {o A B C M W b a' b' c' : Int} {V n : Nat} (hf : RecOk insKs [o, A, B, C, (V : Int), M, W]) (hn1 : 1 ≤ n) (hn2 : n ≤ 64) (hb1 : 1 ≤ b) (hb2 : b ≤ 1000000) (ha : a' = if fA o = true then 31 + b else b) (hb : b' = if fB o = true then 31 + b else b) (hc : c' = if fC o = true then 31 + b else b) :
    (∀ w, Calls Tryd.prog 19 #[insV o a' B C V M W, .int .i64 n, .bool true] w fun e w' => e = .returned (.bool false) ∧ New w w') ∧ (∀ w, Calls Tryd.prog 19 #[insV o A b' C V M W, .int .i64 n, .bool true] w fun e w' => e = .returned (.bool false) ∧ New w w') ∧
    (∀ w, Calls Tryd.prog 19 #[insV o A B c' V M W, .int .i64 n, .bool true] w fun e w' => e = .returned (.bool false) ∧ New w w') := by
  have bA := bounds_i64 (hf.2 1 _ _ rfl rfl)
  have bB := bounds_i64 (hf.2 2 _ _ rfl rfl)
  have bC := bounds_i64 (hf.2 3 _ _ rfl rfl)
  have bV := bounds_u64 (hf.2 4 _ _ rfl rfl)
  have g : ∀ x : Int, ∀ u : Bool, (x = if u = true then 31 + b else b) → 1 ≤ x ∧ x ≤ 1000031 ∧ (if u = true then x = 31 + b else x = b) := fun x u h => by
    cases u with
    | true => simp at h; simp; omega
    | false => simp at h; simp; omega
  obtain ⟨a1, a2, a3⟩ := g a' _ ha
  obtain ⟨b1, b2, b3⟩ := g b' _ hb
  obtain ⟨c1, c2, c3⟩ := g c' _ hc
  refine ⟨fun w => ?_, fun w => ?_, fun w => ?_⟩
  · have := right1_any o a' B C M W V n true w (recOk_upd hf (by omega) (by omega) (by omega) V (by omega)) hn1 hn2
    rwa [may_A a3 hb1] at this
  · have := right1_any o A b' C M W V n true w (recOk_upd hf (by omega) (by omega) (by omega) V (by omega)) hn1 hn2
    rwa [may_B b3 hb1] at this
  · have := right1_any o A B c' M W V n true w (recOk_upd hf (by omega) (by omega) (by omega) V (by omega)) hn1 hn2
    rwa [may_C c3 hb1] at this

set_option maxRecDepth 100000 in
set_option maxHeartbeats 16000000 in
theorem unused_walk (o A B C M W : Int) (V : Nat) (nn by0 : Int) (w : World) (hg : Laid w) (hfit : RecOk insKs [o, A, B, C, (V : Int), M, W]) (h1 : -9223372036854775808 ≤ nn) (h2 : nn ≤ 9223372036854775807) :
    Calls Tryd.prog 6 #[insV o A B C V M W, .int .i64 nn, .int .i64 by0] w fun e w' => e = .returned (.bool true) ∧ New w w' := by
  obtain ⟨k0, hk0, hk1⟩ := within_nat nn 20 (by omega)
  have HK := Lib.hid hk0
  have HFT := Lib.hid hfit
  have HG := Lib.hid hg
  obtain ⟨n, hn⟩ : ∃ n, k0 + 1 = n := ⟨_, rfl⟩
  have hn1 : 1 ≤ n := by omega
  have hn2 : n ≤ 64 := by omega
  have HN := Lib.hid hn
  clear hk0 hfit hg hn
  go_enter Tryd.func6, Tryd.ntmps6
  go_wp2_with fail
  refine (within_any nn 20 _ (by omega) (by omega) (by omega) (by omega)).mono ?_
  rintro e w' ⟨rfl, rfl⟩
  rw [HK.out]
  have hx : Arr (w.alloc (.cells #[.int .i64 o, .int .i64 A, .int .i64 B, .int .i64 C, .int .u64 V, .int .i64 M, .int .i64 W] 42)) w.heap.size (insL o A B C V M W) := Arr.new w _ _
  have hnw : New w (w.alloc (.cells #[.int .i64 o, .int .i64 A, .int .i64 B, .int .i64 C, .int .u64 V, .int .i64 M, .int .i64 W] 42)) := (Fr.refl _ _).alloc _
  have HRG := Lib.hid (fun w => right1_any o A B C M W V n true w HFT.out hn1 hn2)
  obtain ⟨ok, hok⟩ : ∃ ok, mayB o A B C V M W n true = ok := ⟨_, rfl⟩
  rw [hok] at HRG
  have HOK := Lib.hid hok
  have HNW := Lib.hid hnw
  have HX := Lib.hid hx
  clear hx hnw hok
  go_wp2_with fail
  rw [show (1 : Int) + (k0 : Int) = (n : Int) by have := HN.out; omega]
  refine (HRG.out _).mono ?_
  generalize w.alloc (.cells #[.int .i64 o, .int .i64 A, .int .i64 B, .int .i64 C, .int .u64 V, .int .i64 M, .int .i64 W] 42) = W0 at HX HNW ⊢
  rintro e w1 ⟨rfl, hn1'⟩
  have HX1 := Lib.hid (HX.out.keep hn1' id)
  have HN1 := Lib.hid (HNW.out.trans hn1')
  clear hn1' HX HNW HRG
  cases ok with
  | false =>
    go_wp2_with fail
    refine (awake_any _ (HG.out.keep HN1.out id)).mono ?_
    rintro e w3 ⟨rfl, hn3⟩
    have HN3 := Lib.hid (HN1.out.trans hn3)
    clear hn3
    go_wp2
    go_ret
    exact ⟨rfl, HN3.out⟩
  | true =>
    have x0 := HX1.out.cell 0 _ rfl
    have lx := HX1.out.lt
    obtain ⟨xb, hxb⟩ : ∃ xb, w.heap.size = xb := ⟨_, rfl⟩
    rw [hxb] at HX1 x0 lx ⊢
    clear hxb
    go_wp2_with fail
    refine (fields_any o _).mono ?_
    rintro e w' ⟨rfl, rfl⟩
    have x1 := HX1.out.cell 1 _ rfl
    have x2 := HX1.out.cell 2 _ rfl
    have x3 := HX1.out.cell 3 _ rfl
    have x4 := HX1.out.cell 4 _ rfl
    have x5 := HX1.out.cell 5 _ rfl
    have x6 := HX1.out.cell 6 _ rfl
    have hW3 : ∀ O1 O2 O3 : Obj, New w1 (((w1.alloc O1).alloc O2).alloc O3).drew := fun _ _ _ => ((((Fr.refl _ _).alloc _).alloc _).alloc _).drew
    have y0 := fun O1 O2 O3 => ((hW3 O1 O2 O3).cell lx id 0).trans x0
    have y1 := fun O1 O2 O3 => ((hW3 O1 O2 O3).cell lx id 1).trans x1
    have y2 := fun O1 O2 O3 => ((hW3 O1 O2 O3).cell lx id 2).trans x2
    have y3 := fun O1 O2 O3 => ((hW3 O1 O2 O3).cell lx id 3).trans x3
    have y4 := fun O1 O2 O3 => ((hW3 O1 O2 O3).cell lx id 4).trans x4
    have y5 := fun O1 O2 O3 => ((hW3 O1 O2 O3).cell lx id 5).trans x5
    have y6 := fun O1 O2 O3 => ((hW3 O1 O2 O3).cell lx id 6).trans x6
    clear hW3
    have e31 : ∀ b : Int, 1 ≤ b → b ≤ 1000000 → IntKind.i64.wrap (31 + b) = 31 + b := fun b h1 h2 => IntWalk.i64_in _ (by omega)
    have E31 := Lib.hid e31
    obtain ⟨x, hx⟩ : ∃ x : Bool, (decide (by0 < 1) || decide (1000000 < by0)) = x := ⟨_, rfl⟩
    have HXB := Lib.hid hx
    clear e31 hx
    go_upto_region 5 with fail
    go_cut [36] (fun s wx => s = .bool x ∧ w1 = wx)
    case first => as_aux_lemma =>
      by_cases q1 : by0 < 1
      · have d1 : decide (by0 < 1) = true := by simpa using q1
        go_wp2_with fail
        go_meet
        case rel => exact ⟨by rw [← HXB.out, d1]; rfl, rfl⟩
      · have d1 : decide (by0 < 1) = false := by simpa using q1
        go_wp2_with fail
        go_meet
        case rel => exact ⟨by rw [← HXB.out, d1]; rfl, rfl⟩
    case rest => as_aux_lemma =>
    obtain ⟨rfl, rfl⟩ := hcut
    go_upto_if 36 with fail
    go_cut [2] (fun s wx => ∃ b : Int, s = .int .i64 b ∧ 1 ≤ b ∧ b ≤ 1000000 ∧ w1 = wx)
    case first => as_aux_lemma =>
      cases x with
      | true =>
        go_wp2_with fail
        go_meet
        case rel => exact ⟨1, rfl, by omega, by omega, rfl⟩
      | false =>
        have hq := HXB.out
        rw [Bool.or_eq_false_iff, decide_eq_false_iff_not, decide_eq_false_iff_not] at hq
        have HQ := Lib.hid hq
        clear hq
        go_wp2_with fail
        go_meet
        case rel => exact ⟨by0, rfl, by have := HQ.out; omega, by have := HQ.out; omega, rfl⟩
    case rest => as_aux_lemma =>
    obtain ⟨b, rfl, hb1, hb2, rfl⟩ := hcut
    go_upto_region 7 with fail
    obtain ⟨W3, hW3⟩ : ∃ W3, (((w1.alloc (.cells #[.int .i64 o, .int .i64 A, .int .i64 B, .int .i64 C, .int .u64 V, .int .i64 M, .int .i64 W] 42)).alloc (.cells #[.int .i64 o, .int .i64 A, .int .i64 B, .int .i64 C, .int .u64 V, .int .i64 M, .int .i64 W] 42)).alloc (.cells #[.int .i64 o, .int .i64 A, .int .i64 B, .int .i64 C, .int .u64 V, .int .i64 M, .int .i64 W] 42)).drew = W3 := ⟨_, rfl⟩
    have HW3 := Lib.hid hW3
    clear hW3
    obtain ⟨nb, hnb⟩ : ∃ nb, w1.heap.size = nb := ⟨_, rfl⟩
    have HNB := Lib.hid hnb
    clear hnb
    go_cut [11, 12, 13] (fun s t u wx => ∃ yb zb wb : Nat, s = .pointer (some ⟨yb, 0, none⟩) ∧ t = .pointer (some ⟨zb, 0, none⟩) ∧ u = .pointer (some ⟨wb, 0, none⟩) ∧ (yb = nb ∨ yb = nb + 1 ∨ yb = nb + 1 + 1) ∧ (zb = nb ∨ zb = nb + 1 ∨ zb = nb + 1 + 1) ∧ (wb = nb ∨ wb = nb + 1 ∨ wb = nb + 1 + 1) ∧ yb ≠ zb ∧ yb ≠ wb ∧ zb ≠ wb ∧ W3 = wx)
    case first => as_aux_lemma =>
      go_region
      all_goals
        go_wp2_with fail
        go_meet
        case rel =>
          have hh := HNB.out
          exact ⟨_, _, _, rfl, rfl, rfl, by omega, by omega, by omega, by omega, by omega, by omega, HW3.out.symm⟩
    case rest => as_aux_lemma =>
    obtain ⟨yb, zb, wb, rfl, rfl, rfl, hy3, hz3, hw3, p1, p2, p3, rfl⟩ := hcut
    obtain ⟨n3, a1, a2, a3⟩ := unused_mem w1 HW3.out
    have N3 := Lib.hid (HN1.out.trans n3)
    have X3 := Lib.hid (HX1.out.keep n3 id)
    have hxl := HX1.out.lt
    rw [HNB.out] at a1 a2 a3 hxl
    have A1 := Lib.hid (show Arr W3 yb (insL o A B C V M W) by rcases hy3 with h | h | h <;> rw [h] <;> assumption)
    have A2 := Lib.hid (show Arr W3 zb (insL o A B C V M W) by rcases hz3 with h | h | h <;> rw [h] <;> assumption)
    have A3 := Lib.hid (show Arr W3 wb (insL o A B C V M W) by rcases hw3 with h | h | h <;> rw [h] <;> assumption)
    have NYB := Lib.hid (show w.heap.size ≤ nb by rw [← HNB.out]; exact HN1.out.size)
    have hyy : nb ≤ yb := by omega
    have p4 := Ne.symm p1
    have p5 := Ne.symm p2
    have p6 := Ne.symm p3
    have hzy : nb ≤ zb := by omega
    have hwy : nb ≤ wb := by omega
    have YBX := Lib.hid (show xb < nb from hxl)
    have ew := E31.out b hb1 hb2
    have f1 := A1.out.free 1
    have f2 := A2.out.free 2
    have f3 := A3.out.free 3
    have l1 := A1.out.lt
    have l2 := A2.out.lt
    have l3 := A3.out.lt
    have d1 : W3.cell? ⟨yb, 1, none⟩ = some (.int .i64 A) := A1.out.cell 1 _ rfl
    have d2 : W3.cell? ⟨zb, 2, none⟩ = some (.int .i64 B) := A2.out.cell 2 _ rfl
    have d3 : W3.cell? ⟨wb, 3, none⟩ = some (.int .i64 C) := A3.out.cell 3 _ rfl
    clear x0 x1 x2 x3 x4 x5 x6 y0 y1 y2 y3 y4 y5 y6 n3 a1 a2 a3 hy3 hz3 hw3 hxl
    obtain ⟨fa, hfa⟩ : ∃ fa, fA o = fa := ⟨_, rfl⟩
    obtain ⟨fb, hfb⟩ : ∃ fb, fB o = fb := ⟨_, rfl⟩
    obtain ⟨fc, hfc⟩ : ∃ fc, fC o = fc := ⟨_, rfl⟩
    obtain ⟨fv, hfv⟩ : ∃ fv, fV o = fv := ⟨_, rfl⟩
    rw [hfa, hfb, hfc, hfv]
    have HFV := Lib.hid hfv
    obtain ⟨a', ha'⟩ : ∃ a' : Int, a' = if fa = true then 31 + b else b := ⟨_, rfl⟩
    obtain ⟨b', hb'⟩ : ∃ b' : Int, b' = if fb = true then 31 + b else b := ⟨_, rfl⟩
    obtain ⟨c', hc'⟩ : ∃ c' : Int, c' = if fc = true then 31 + b else b := ⟨_, rfl⟩
    have HY := Lib.hid (unused_right (n := n) (V := V) (a' := a') (b' := b') (c' := c') (b := b) HFT.out hn1 hn2 hb1 hb2 (by rw [hfa]; exact ha') (by rw [hfb]; exact hb') (by rw [hfc]; exact hc'))
    have HA' := Lib.hid ha'
    have HB' := Lib.hid hb'
    have HC' := Lib.hid hc'
    clear hfa hfb hfc hfv ha' hb' hc'
    go_upto_if 50 with fail
    obtain ⟨Wa, hWa⟩ : ∃ Wa, ((W3.setCell ⟨yb, 1, none⟩ (.int .i64 (31 + b))).setCell ⟨zb, 2, none⟩ (.int .i64 (31 + b))).setCell ⟨wb, 3, none⟩ (.int .i64 (31 + b)) = Wa := ⟨_, rfl⟩
    have B1 := Lib.hid (show Arr Wa yb (insL o (31 + b) B C V M W) by rw [← hWa]; exact arr_cast (((A1.out.set 1 (.int .i64 (31 + b))).setNe p4 _).setNe p5 _) rfl)
    have B2 := Lib.hid (show Arr Wa zb (insL o A (31 + b) C V M W) by rw [← hWa]; exact arr_cast (((A2.out.setNe p1 _).set 2 (.int .i64 (31 + b))).setNe p6 _) rfl)
    have B3 := Lib.hid (show Arr Wa wb (insL o A B (31 + b) V M W) by rw [← hWa]; exact arr_cast (((A3.out.setNe p2 _).setNe p3 _).set 3 (.int .i64 (31 + b))) rfl)
    have FA := Lib.hid (show Fr (fun k => nb ≤ k) W3 Wa by rw [← hWa]; exact (((Fr.refl (fun k => nb ≤ k) W3).setCell (fun _ => hyy) _).setCell (fun _ => hzy) _).setCell (fun _ => hwy) _)
    rw [hWa]
    clear hWa d1 d2 d3 f1 f2 f3 l1 l2 l3 ew
    skip
    go_cut [52] (fun _ wx => Arr wx yb (insL o a' B C V M W) ∧ Arr wx zb (insL o A (31 + b) C V M W) ∧ Arr wx wb (insL o A B (31 + b) V M W) ∧ Fr (fun k => nb ≤ k) W3 wx)
    case first => as_aux_lemma =>
      have C1 := B1.out
      have C2 := B2.out
      have C3 := B3.out
      have CF := FA.out
      have e0 : Wa.cell? ⟨yb, 1, none⟩ = some (.int .i64 (31 + b)) := B1.out.cell 1 _ rfl
      have e1 := B1.out.free 1
      have e2 := B1.out.lt
      have HC1 := Lib.hid C1
      have HC2 := Lib.hid C2
      have HC3 := Lib.hid C3
      have HCF := Lib.hid CF
      clear C1 C2 C3 CF
      cases fa with
      | true =>
        have hh := HA'.out
        simp only [if_true] at hh
        have H5 := Lib.hid hh
        clear hh
        go_wp2_with fail
        go_meet
        case rel =>
          have C1 := HC1.out
          have C2 := HC2.out
          have C3 := HC3.out
          rw [H5.out]
          exact ⟨C1, C2, C3, HCF.out⟩
      | false =>
        have hh := HA'.out
        simp only [if_false, Bool.false_eq_true] at hh
        have H5 := Lib.hid hh
        clear hh
        go_wp2_with fail
        go_meet
        case rel =>
          have C1 := HC1.out
          have C2 := HC2.out
          have C3 := HC3.out
          rw [H5.out]
          exact ⟨arr_cast (C1.set 1 _) rfl, arr_cast (C2.setNe p1 _) rfl, arr_cast (C3.setNe p2 _) rfl, HCF.out.setCell (fun _ => hyy) _⟩
    case rest => as_aux_lemma =>
    obtain ⟨k1', k2', k3', k4'⟩ := hcut
    clear B1 B2 B3 FA
    have B1 := Lib.hid k1'
    have B2 := Lib.hid k2'
    have B3 := Lib.hid k3'
    have FA := Lib.hid k4'
    clear k1' k2' k3' k4'
    go_upto_if 54 with fail
    go_cut [56] (fun _ wx => Arr wx yb (insL o a' B C V M W) ∧ Arr wx zb (insL o A b' C V M W) ∧ Arr wx wb (insL o A B (31 + b) V M W) ∧ Fr (fun k => nb ≤ k) W3 wx)
    case first => as_aux_lemma =>
      have C1 := B1.out
      have C2 := B2.out
      have C3 := B3.out
      have CF := FA.out
      have e0 : wc.cell? ⟨zb, 2, none⟩ = some (.int .i64 (31 + b)) := B2.out.cell 2 _ rfl
      have e1 := B2.out.free 2
      have e2 := B2.out.lt
      have HC1 := Lib.hid C1
      have HC2 := Lib.hid C2
      have HC3 := Lib.hid C3
      have HCF := Lib.hid CF
      clear C1 C2 C3 CF
      cases fb with
      | true =>
        have hh := HB'.out
        simp only [if_true] at hh
        have H5 := Lib.hid hh
        clear hh
        go_wp2_with fail
        go_meet
        case rel =>
          have C1 := HC1.out
          have C2 := HC2.out
          have C3 := HC3.out
          rw [H5.out]
          exact ⟨C1, C2, C3, HCF.out⟩
      | false =>
        have hh := HB'.out
        simp only [if_false, Bool.false_eq_true] at hh
        have H5 := Lib.hid hh
        clear hh
        go_wp2_with fail
        go_meet
        case rel =>
          have C1 := HC1.out
          have C2 := HC2.out
          have C3 := HC3.out
          rw [H5.out]
          exact ⟨arr_cast (C1.setNe p4 _) rfl, arr_cast (C2.set 2 _) rfl, arr_cast (C3.setNe p3 _) rfl, HCF.out.setCell (fun _ => hzy) _⟩
    case rest => as_aux_lemma =>
    obtain ⟨k1', k2', k3', k4'⟩ := hcut
    clear B1 B2 B3 FA
    have B1 := Lib.hid k1'
    have B2 := Lib.hid k2'
    have B3 := Lib.hid k3'
    have FA := Lib.hid k4'
    clear k1' k2' k3' k4'
    go_upto_if 58 with fail
    go_cut [60] (fun _ wx => Arr wx yb (insL o a' B C V M W) ∧ Arr wx zb (insL o A b' C V M W) ∧ Arr wx wb (insL o A B c' V M W) ∧ Fr (fun k => nb ≤ k) W3 wx)
    case first => as_aux_lemma =>
      have C1 := B1.out
      have C2 := B2.out
      have C3 := B3.out
      have CF := FA.out
      have e0 : wc.cell? ⟨wb, 3, none⟩ = some (.int .i64 (31 + b)) := B3.out.cell 3 _ rfl
      have e1 := B3.out.free 3
      have e2 := B3.out.lt
      have HC1 := Lib.hid C1
      have HC2 := Lib.hid C2
      have HC3 := Lib.hid C3
      have HCF := Lib.hid CF
      clear C1 C2 C3 CF
      cases fc with
      | true =>
        have hh := HC'.out
        simp only [if_true] at hh
        have H5 := Lib.hid hh
        clear hh
        go_wp2_with fail
        go_meet
        case rel =>
          have C1 := HC1.out
          have C2 := HC2.out
          have C3 := HC3.out
          rw [H5.out]
          exact ⟨C1, C2, C3, HCF.out⟩
      | false =>
        have hh := HC'.out
        simp only [if_false, Bool.false_eq_true] at hh
        have H5 := Lib.hid hh
        clear hh
        go_wp2_with fail
        go_meet
        case rel =>
          have C1 := HC1.out
          have C2 := HC2.out
          have C3 := HC3.out
          rw [H5.out]
          exact ⟨arr_cast (C1.setNe p5 _) rfl, arr_cast (C2.setNe p6 _) rfl, arr_cast (C3.set 3 _) rfl, HCF.out.setCell (fun _ => hwy) _⟩
    case rest => as_aux_lemma =>
    obtain ⟨k1', k2', k3', k4'⟩ := hcut
    clear B1 B2 B3 FA
    have B1 := Lib.hid k1'
    have B2 := Lib.hid k2'
    have B3 := Lib.hid k3'
    have FA := Lib.hid k4'
    clear k1' k2' k3' k4'
    have X4 := Lib.hid (X3.out.keep FA.out (by have := YBX.out; omega))
    have N4 := Lib.hid (N3.out.then FA.out (fun i hi e => by have := NYB.out; omega))
    obtain ⟨g0, g1, g2, g3, g4, g5, g6⟩ := insL_at B1.out
    have lg := B1.out.lt
    go_wp2_with fail
    with_reducible refine (HY.out.1 _).mono ?_
    rintro e w5 ⟨rfl, hn5⟩
    obtain ⟨h0, h1', h2', h3, h4, h5, h6⟩ := insL_at (B2.out.keep hn5 id)
    have lh := (B2.out.keep hn5 id).lt
    have HN5 := Lib.hid hn5
    clear g0 g1 g2 g3 g4 g5 g6 hn5
    go_wp2_with fail
    with_reducible refine (HY.out.2.1 _).mono ?_
    rintro e w6 ⟨rfl, hn6⟩
    obtain ⟨k0', k1', k2', k3', k4', k5', k6'⟩ := insL_at ((B3.out.keep HN5.out id).keep hn6 id)
    have lk := ((B3.out.keep HN5.out id).keep hn6 id).lt
    have HN6 := Lib.hid (HN5.out.trans hn6)
    clear h0 h1' h2' h3 h4 h5 h6 hn6
    go_wp2_with fail
    with_reducible refine (HY.out.2.2 _).mono ?_
    rintro e w7 ⟨rfl, hn7⟩
    have HX7 := Lib.hid ((X4.out.keep HN6.out id).keep hn7 id)
    have HN7 := Lib.hid (N4.out.trans (HN6.out.trans hn7))
    obtain ⟨j0, j1, j2, j3, j4, j5, j6⟩ := insL_at HX7.out
    have lj := HX7.out.lt
    clear k0' k1' k2' k3' k4' k5' k6' hn7
    have HU := Lib.hid (fun h => unused_u (o := o) (A := A) (B := B) (C := C) (M := M) (W := W) (n := n) (V := V) (b := b) HFT.out hn1 hn2 hb1 hb2 h)
    cases fv with
    | true =>
      go_wp2_with fail
      refine (awake_any _ (HG.out.keep (HN7.out.alloc _) id)).mono ?_
      rintro e w8 ⟨rfl, hn8⟩
      have HN8 := Lib.hid ((HN7.out.alloc _).trans hn8)
      clear hn8
      go_wp2
      go_ret
      exact ⟨rfl, HN8.out⟩
    | false =>
      go_wp2_with fail
      refine (HU.out HFV.out _).mono ?_
      rintro e w8 ⟨rfl, hn8⟩
      have HN8 := Lib.hid ((HN7.out.alloc _).trans hn8)
      clear hn8
      go_wp2_with fail
      refine (awake_any _ (HG.out.keep HN8.out id)).mono ?_
      rintro e w9 ⟨rfl, hn9⟩
      have HN9 := Lib.hid (HN8.out.trans hn9)
      clear hn9
      go_wp2
      go_ret
      exact ⟨rfl, HN9.out⟩

end Go.Proofs.YtkpliapmllabaaaDoor
