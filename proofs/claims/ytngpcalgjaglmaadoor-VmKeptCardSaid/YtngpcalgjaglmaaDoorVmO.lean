/- The document's step: where it does not go on; places that it goes to. -/
import Derived.Test.YtngpcalgjaglmaaDoorVmM
import Derived.Test.YtngpcalgjaglmaaDoorCodeR
namespace Go.Proofs.YtngpcalgjaglmaaDoor
open Go.RowKit
/-- Behind a step of the document's that went well, or went nowhere. -/
def RStepped (w : World) (fb o : Nat) (v : Value) (R : Int × Fm) (e : Ending) (w' : World) : Prop :=
  ∃ v', e = .returned (.tuple #[.int .i64 R.1, .pointer none]) ∧ FmAt w' fb o v' R.2 ∧ Fr34 fb o w w' ∧ ∀ k, v'.ownBlock = some k → v.ownBlock = some k ∨ w.heap.size ≤ k

set_option maxRecDepth 100000 in
set_option maxHeartbeats 8000000 in
theorem rstep_out (fb o : Nat) (v cv : Value) (F : Fm) (co : Option Addr) (n cap : Nat) (w : World) (h : FmAt w fb o v F) (hn : n ≤ 9223372036854775807) (hpc : F.pc < 0 ∨ n ≤ F.pc) :
    Calls Tryd.prog 11 #[.pointer (some ⟨fb, o, none⟩), .slice co n cap, cv] w fun e w' => e = .returned (.tuple #[.int .i64 3, .pointer none]) ∧ w' = w := by
  have c0 := h.fr.pc
  generalize F.pc = p at c0 hpc
  clear h
  rcases (show p < 0 ∨ (¬ p < 0 ∧ (n : Int) ≤ p) by omega) with h1 | ⟨h1, h2⟩
  all_goals
    go_enter Tryd.func11, Tryd.ntmps11
    go_wp2
    go_ret2
    exact ⟨rfl, rfl⟩

section
variable (fb o : Nat) (v cv : Value) (F : Fm) (cg co n cap k : Nat) (A B C : Int) (V : Nat) (M W : Int) (w : World)

set_option maxRecDepth 100000 in
set_option maxHeartbeats 8000000 in
theorem rstep_bad (op : Int) (h : FmAt w fb o v F) (hi : InsAt w cg co k op A B C V M W) (hk : k < n) (hn : n ≤ 1000000) (hV : V < 18446744073709551616) (hpc : F.pc = k) (hg : goodV op A B C V n = false) :
    Calls Tryd.prog 11 #[.pointer (some ⟨fb, o, none⟩), .slice (some ⟨cg, co, none⟩) n cap, cv] w fun e w' => e = .returned (.tuple #[.int .i64 3, .pointer none]) ∧ New w w' := by
  have c0 := h.fr.pc
  have hl := h.fr.lt
  rw [hpc] at c0
  have HI := Lib.hid hi
  obtain ⟨_, x0, x1, x2, x3, x4, x5, x6⟩ := hi
  have q1 : (0 : Int) ≤ (k : Int) := by omega
  have q2 : (k : Int) < (n : Int) := by omega
  have tk : IntKind.i64.wrap ((k : Int) + 1) = (k : Int) + 1 := IntWalk.i64_in _ (by omega)
  have H := Lib.hid h
  have HPC := Lib.hid hpc
  unfold goodV at hg
  obtain ⟨x, hx⟩ : ∃ x, (op != 22) = x := ⟨_, rfl⟩
  rw [hx] at hg
  have HRT := Lib.hid (fun w' => right_any op A B C 0 0 V n x w' hV (by omega))
  rw [hg] at HRT
  clear h hg hpc
  go_enter Tryd.func11, Tryd.ntmps11
  go_wp2_with fail
  obtain ⟨W0, hW0⟩ : ∃ W0, (w.alloc (.cells #[.int .i64 op, .int .i64 A, .int .i64 B, .int .i64 C, .int .u64 V, .int .i64 M, .int .i64 W] 52)).alloc (.cells #[.int .i64 op, .int .i64 A, .int .i64 B, .int .i64 C, .int .u64 V, .int .i64 0, .int .i64 0] 52) = W0 := ⟨_, rfl⟩
  have hn0 : New w W0 := by rw [← hW0]; exact ((Fr.refl _ _).alloc _).alloc _
  have hb0 : W0.heap[w.heap.size]? = some (.cells #[.int .i64 op, .int .i64 A, .int .i64 B, .int .i64 C, .int .u64 V, .int .i64 M, .int .i64 W] 52 (0, 0)) := by rw [← hW0, block_alloc (by simp)]; exact block_alloc_new _ _
  rw [hW0]
  obtain ⟨xb, hxb⟩ : ∃ xb, w.heap.size = xb := ⟨_, rfl⟩
  have hxf : fb < xb := by omega
  rw [hxb] at hb0 ⊢
  refine (HRT.out _).mono ?_
  rintro e w1 ⟨rfl, hn1⟩
  have hb1 := (hn1.block xb (lt_of_block hb0) id).trans hb0
  have HB1 := Lib.hid hb1
  have HN1 := Lib.hid (hn0.trans hn1)
  have hx1 := lt_of_block hb1
  obtain ⟨y0, y1, y2, y3, y4, y5, y6⟩ := box_cells hb1
  have d0 := (HN1.out.cell hl id o).trans c0
  have zf : ∀ i, w1.frozen? ⟨fb, i, none⟩ = false := fun i => (HN1.out.frozen hl id i).trans (H.out.fr.free i)
  clear hW0 hn0 hb0 hn1 hb1 c0 x0 x1 x2 x3 x4 x5 x6 HRT HI
  go_wp2
  go_ret2
  exact ⟨rfl, HN1.out⟩

set_option maxRecDepth 100000 in
set_option maxHeartbeats 8000000 in
theorem rstep_away (op : Int) (h : FmAt w fb o v F) (hi : InsAt w cg co k op A B C V M W) (hk : k < n) (hn : n ≤ 1000000) (hV : V < 18446744073709551616) (hpc : F.pc = k) (hg : goodV op A B C V n = true) (ho : 22 ≤ op) :
    Calls Tryd.prog 11 #[.pointer (some ⟨fb, o, none⟩), .slice (some ⟨cg, co, none⟩) n cap, cv] w fun e w' => e = .returned (.tuple #[.int .i64 1, .pointer none]) ∧ New w w' := by
  have c0 := h.fr.pc
  have hl := h.fr.lt
  rw [hpc] at c0
  have HI := Lib.hid hi
  obtain ⟨_, x0, x1, x2, x3, x4, x5, x6⟩ := hi
  have q1 : (0 : Int) ≤ (k : Int) := by omega
  have q2 : (k : Int) < (n : Int) := by omega
  have tk : IntKind.i64.wrap ((k : Int) + 1) = (k : Int) + 1 := IntWalk.i64_in _ (by omega)
  have H := Lib.hid h
  have HPC := Lib.hid hpc
  unfold goodV at hg
  obtain ⟨x, hx⟩ : ∃ x, (op != 22) = x := ⟨_, rfl⟩
  rw [hx] at hg
  have HRT := Lib.hid (fun w' => right_any op A B C 0 0 V n x w' hV (by omega))
  rw [hg] at HRT
  have t1 : (op == 1) = false := by rw [beq_eq_false_iff_ne]; omega
  have t2 : (op == 2) = false := by rw [beq_eq_false_iff_ne]; omega
  have t3 : (op == 3) = false := by rw [beq_eq_false_iff_ne]; omega
  have t4 : (op == 4) = false := by rw [beq_eq_false_iff_ne]; omega
  have t5 : (op == 5) = false := by rw [beq_eq_false_iff_ne]; omega
  have t6 : (op == 6) = false := by rw [beq_eq_false_iff_ne]; omega
  have t7 : (op == 7) = false := by rw [beq_eq_false_iff_ne]; omega
  have t8 : (op == 8) = false := by rw [beq_eq_false_iff_ne]; omega
  have t9 : (op == 9) = false := by rw [beq_eq_false_iff_ne]; omega
  have t10 : (op == 10) = false := by rw [beq_eq_false_iff_ne]; omega
  have t11 : (op == 11) = false := by rw [beq_eq_false_iff_ne]; omega
  have t12 : (op == 12) = false := by rw [beq_eq_false_iff_ne]; omega
  have t13 : (op == 13) = false := by rw [beq_eq_false_iff_ne]; omega
  have t14 : (op == 14) = false := by rw [beq_eq_false_iff_ne]; omega
  have t15 : (op == 15) = false := by rw [beq_eq_false_iff_ne]; omega
  have t16 : (op == 16) = false := by rw [beq_eq_false_iff_ne]; omega
  have t17 : (op == 17) = false := by rw [beq_eq_false_iff_ne]; omega
  have t18 : (op == 18) = false := by rw [beq_eq_false_iff_ne]; omega
  have t19 : (op == 19) = false := by rw [beq_eq_false_iff_ne]; omega
  have t20 : (op == 20) = false := by rw [beq_eq_false_iff_ne]; omega
  have t21 : (op == 21) = false := by rw [beq_eq_false_iff_ne]; omega
  clear h hg hpc ho
  go_enter Tryd.func11, Tryd.ntmps11
  go_wp2_with fail
  obtain ⟨W0, hW0⟩ : ∃ W0, (w.alloc (.cells #[.int .i64 op, .int .i64 A, .int .i64 B, .int .i64 C, .int .u64 V, .int .i64 M, .int .i64 W] 52)).alloc (.cells #[.int .i64 op, .int .i64 A, .int .i64 B, .int .i64 C, .int .u64 V, .int .i64 0, .int .i64 0] 52) = W0 := ⟨_, rfl⟩
  have hn0 : New w W0 := by rw [← hW0]; exact ((Fr.refl _ _).alloc _).alloc _
  have hb0 : W0.heap[w.heap.size]? = some (.cells #[.int .i64 op, .int .i64 A, .int .i64 B, .int .i64 C, .int .u64 V, .int .i64 M, .int .i64 W] 52 (0, 0)) := by rw [← hW0, block_alloc (by simp)]; exact block_alloc_new _ _
  rw [hW0]
  obtain ⟨xb, hxb⟩ : ∃ xb, w.heap.size = xb := ⟨_, rfl⟩
  have hxf : fb < xb := by omega
  rw [hxb] at hb0 ⊢
  refine (HRT.out _).mono ?_
  rintro e w1 ⟨rfl, hn1⟩
  have hb1 := (hn1.block xb (lt_of_block hb0) id).trans hb0
  have HB1 := Lib.hid hb1
  have HN1 := Lib.hid (hn0.trans hn1)
  have hx1 := lt_of_block hb1
  obtain ⟨y0, y1, y2, y3, y4, y5, y6⟩ := box_cells hb1
  have d0 := (HN1.out.cell hl id o).trans c0
  have zf : ∀ i, w1.frozen? ⟨fb, i, none⟩ = false := fun i => (HN1.out.frozen hl id i).trans (H.out.fr.free i)
  clear hW0 hn0 hb0 hn1 hb1 c0 x0 x1 x2 x3 x4 x5 x6 HRT HI
  go_wp2
  go_ret2
  exact ⟨rfl, HN1.out⟩

set_option maxRecDepth 100000 in
set_option maxHeartbeats 8000000 in
theorem rstep_12 (h : FmAt w fb o v F) (hi : InsAt w cg co k 12 A B C V M W) (hk : k < n) (hn : n ≤ 1000000) (hV : V < 18446744073709551616) (hpc : F.pc = k) (hg : goodV 12 A B C V n = true) (hVn : V < n) :
    Calls Tryd.prog 11 #[.pointer (some ⟨fb, o, none⟩), .slice (some ⟨cg, co, none⟩) n cap, cv] w fun e w' => RStepped w fb o v (jumpN 12 A V F) e w' := by
  have c0 := h.fr.pc
  have hl := h.fr.lt
  rw [hpc] at c0
  unfold goodV at hg
  rw [show ((12 : Int) != 22) = true from rfl] at hg
  have HRT := Lib.hid (fun w' => right_any 12 A B C 0 0 V n true w' hV (by omega))
  rw [hg] at HRT
  have HI := Lib.hid hi
  obtain ⟨_, x0, x1, x2, x3, x4, x5, x6⟩ := hi
  have q1 : (0 : Int) ≤ (k : Int) := by omega
  have q2 : (k : Int) < (n : Int) := by omega
  have tk : IntKind.i64.wrap ((k : Int) + 1) = (k : Int) + 1 := IntWalk.i64_in _ (by omega)
  have H := Lib.hid h
  have HPC := Lib.hid hpc
  have t1 : IntKind.i64.wrap (V : Int) = (V : Int) := IntWalk.i64_in _ (by omega)
  have HJ := Lib.hid (show jumpN 12 A V F = (0, ⟨V, F.rs, F.bk⟩) by unfold jumpN; rw [if_neg (by decide), if_neg (by decide), if_pos rfl])
  clear h hg hpc
  go_enter Tryd.func11, Tryd.ntmps11
  go_wp2_with fail
  obtain ⟨W0, hW0⟩ : ∃ W0, (w.alloc (.cells #[.int .i64 12, .int .i64 A, .int .i64 B, .int .i64 C, .int .u64 V, .int .i64 M, .int .i64 W] 52)).alloc (.cells #[.int .i64 12, .int .i64 A, .int .i64 B, .int .i64 C, .int .u64 V, .int .i64 0, .int .i64 0] 52) = W0 := ⟨_, rfl⟩
  have hn0 : New w W0 := by rw [← hW0]; exact ((Fr.refl _ _).alloc _).alloc _
  have hb0 : W0.heap[w.heap.size]? = some (.cells #[.int .i64 12, .int .i64 A, .int .i64 B, .int .i64 C, .int .u64 V, .int .i64 M, .int .i64 W] 52 (0, 0)) := by rw [← hW0, block_alloc (by simp)]; exact block_alloc_new _ _
  rw [hW0]
  obtain ⟨xb, hxb⟩ : ∃ xb, w.heap.size = xb := ⟨_, rfl⟩
  have hxf : fb < xb := by omega
  rw [hxb] at hb0 ⊢
  refine (HRT.out _).mono ?_
  rintro e w1 ⟨rfl, hn1⟩
  have hb1 := (hn1.block xb (lt_of_block hb0) id).trans hb0
  have HB1 := Lib.hid hb1
  have HN1 := Lib.hid (hn0.trans hn1)
  have hx1 := lt_of_block hb1
  obtain ⟨y0, y1, y2, y3, y4, y5, y6⟩ := box_cells hb1
  have d0 := (HN1.out.cell hl id o).trans c0
  have zf : ∀ i, w1.frozen? ⟨fb, i, none⟩ = false := fun i => (HN1.out.frozen hl id i).trans (H.out.fr.free i)
  clear hW0 hn0 hb0 hn1 hb1 c0 x0 x1 x2 x3 x4 x5 x6 HRT HI
  go_wp2
  go_ret2
  rw [HJ.out]
  exact ⟨_, rfl, (H.out.new HN1.out).setPc V, (Fr34.new hl HN1.out).trans (Fr34.set _ (Nat.le_refl _) (by omega)), fun k hk => .inl hk⟩

set_option maxRecDepth 100000 in
set_option maxHeartbeats 8000000 in
theorem rstep_13 (a : Nat) (ha : a < 32) (h : FmAt w fb o v F) (hi : InsAt w cg co k 13 a B C V M W) (hk : k < n) (hn : n ≤ 1000000) (hV : V < 18446744073709551616) (hpc : F.pc = k) (hg : goodV 13 a B C V n = true) (hVn : V < n) :
    Calls Tryd.prog 11 #[.pointer (some ⟨fb, o, none⟩), .slice (some ⟨cg, co, none⟩) n cap, cv] w fun e w' => RStepped w fb o v (jumpN 13 a V F) e w' := by
  have c0 := h.fr.pc
  have hl := h.fr.lt
  rw [hpc] at c0
  unfold goodV at hg
  rw [show ((13 : Int) != 22) = true from rfl] at hg
  have HRT := Lib.hid (fun w' => right_any 13 a B C 0 0 V n true w' hV (by omega))
  rw [hg] at HRT
  have HI := Lib.hid hi
  obtain ⟨_, x0, x1, x2, x3, x4, x5, x6⟩ := hi
  have q1 : (0 : Int) ≤ (k : Int) := by omega
  have q2 : (k : Int) < (n : Int) := by omega
  have tk : IntKind.i64.wrap ((k : Int) + 1) = (k : Int) + 1 := IntWalk.i64_in _ (by omega)
  have H := Lib.hid h
  have HPC := Lib.hid hpc
  have t1 : IntKind.i64.wrap (V : Int) = (V : Int) := IntWalk.i64_in _ (by omega)
  obtain ⟨X, hX⟩ : ∃ X, F.rs.getD a 0 = X := ⟨_, rfl⟩
  have HJ := Lib.hid (show jumpN 13 a V F = (0, ⟨if (X = 0 ↔ (13 : Int) = 13) then (V : Int) else F.pc + 1, F.rs, F.bk⟩) by
    unfold jumpN
    rw [if_neg (by decide), if_neg (by decide), if_neg (by decide), show (a : Int).toNat = a from rfl, hX])
  have ca := h.fr.regD ha
  rw [hX] at ca
  have q3 : (0 : Int) ≤ (a : Int) := by omega
  have q4 : (a : Int) < 32 := by omega
  clear h hg hpc hX
  by_cases hx : X = 0
  all_goals
    have t3 : ((X : Int) == 0) = decide (X = 0) := by rw [Bool.eq_iff_iff]; simp; try omega
    first | rw [decide_eq_true hx] at t3 | rw [decide_eq_false hx] at t3
    have HX := Lib.hid hx
    clear hx
    go_enter Tryd.func11, Tryd.ntmps11
    go_wp2_with fail
    obtain ⟨W0, hW0⟩ : ∃ W0, (w.alloc (.cells #[.int .i64 13, .int .i64 a, .int .i64 B, .int .i64 C, .int .u64 V, .int .i64 M, .int .i64 W] 52)).alloc (.cells #[.int .i64 13, .int .i64 a, .int .i64 B, .int .i64 C, .int .u64 V, .int .i64 0, .int .i64 0] 52) = W0 := ⟨_, rfl⟩
    have hn0 : New w W0 := by rw [← hW0]; exact ((Fr.refl _ _).alloc _).alloc _
    have hb0 : W0.heap[w.heap.size]? = some (.cells #[.int .i64 13, .int .i64 a, .int .i64 B, .int .i64 C, .int .u64 V, .int .i64 M, .int .i64 W] 52 (0, 0)) := by rw [← hW0, block_alloc (by simp)]; exact block_alloc_new _ _
    rw [hW0]
    obtain ⟨xb, hxb⟩ : ∃ xb, w.heap.size = xb := ⟨_, rfl⟩
    have hxf : fb < xb := by omega
    rw [hxb] at hb0 ⊢
    refine (HRT.out _).mono ?_
    rintro e w1 ⟨rfl, hn1⟩
    have hb1 := (hn1.block xb (lt_of_block hb0) id).trans hb0
    have HB1 := Lib.hid hb1
    have HN1 := Lib.hid (hn0.trans hn1)
    have hx1 := lt_of_block hb1
    obtain ⟨y0, y1, y2, y3, y4, y5, y6⟩ := box_cells hb1
    have d0 := (HN1.out.cell hl id o).trans c0
    have zf : ∀ i, w1.frozen? ⟨fb, i, none⟩ = false := fun i => (HN1.out.frozen hl id i).trans (H.out.fr.free i)
    clear hW0 hn0 hb0 hn1 hb1 c0 x0 x1 x2 x3 x4 x5 x6 HRT HI
    have da := (HN1.out.cell hl id _).trans ca
    clear ca
    go_wp2_with fail
    go_quiet (fail)
    have hn2 : New w1 (w1.drewN nq) := (Fr.refl _ _).drewN nq
    have HN2 := Lib.hid (HN1.out.trans hn2)
    clear hn2
    go_wp2
    go_ret2
    rw [HJ.out]
    first
      | (rw [if_pos (by have := HX.out; simpa using this)]
         exact ⟨_, rfl, (H.out.new HN2.out).setPc V, (Fr34.new hl HN2.out).trans (Fr34.set _ (Nat.le_refl _) (by omega)), fun k hk => .inl hk⟩)
      | (rw [if_neg (by have := HX.out; simpa using this), HPC.out]
         exact ⟨_, rfl, (H.out.new HN2.out).setPc _, (Fr34.new hl HN2.out).trans (Fr34.set _ (Nat.le_refl _) (by omega)), fun k hk => .inl hk⟩)

set_option maxRecDepth 100000 in
set_option maxHeartbeats 8000000 in
theorem rstep_14 (a : Nat) (ha : a < 32) (h : FmAt w fb o v F) (hi : InsAt w cg co k 14 a B C V M W) (hk : k < n) (hn : n ≤ 1000000) (hV : V < 18446744073709551616) (hpc : F.pc = k) (hg : goodV 14 a B C V n = true) (hVn : V < n) :
    Calls Tryd.prog 11 #[.pointer (some ⟨fb, o, none⟩), .slice (some ⟨cg, co, none⟩) n cap, cv] w fun e w' => RStepped w fb o v (jumpN 14 a V F) e w' := by
  have c0 := h.fr.pc
  have hl := h.fr.lt
  rw [hpc] at c0
  unfold goodV at hg
  rw [show ((14 : Int) != 22) = true from rfl] at hg
  have HRT := Lib.hid (fun w' => right_any 14 a B C 0 0 V n true w' hV (by omega))
  rw [hg] at HRT
  have HI := Lib.hid hi
  obtain ⟨_, x0, x1, x2, x3, x4, x5, x6⟩ := hi
  have q1 : (0 : Int) ≤ (k : Int) := by omega
  have q2 : (k : Int) < (n : Int) := by omega
  have tk : IntKind.i64.wrap ((k : Int) + 1) = (k : Int) + 1 := IntWalk.i64_in _ (by omega)
  have H := Lib.hid h
  have HPC := Lib.hid hpc
  have t1 : IntKind.i64.wrap (V : Int) = (V : Int) := IntWalk.i64_in _ (by omega)
  obtain ⟨X, hX⟩ : ∃ X, F.rs.getD a 0 = X := ⟨_, rfl⟩
  have HJ := Lib.hid (show jumpN 14 a V F = (0, ⟨if (X = 0 ↔ (14 : Int) = 13) then (V : Int) else F.pc + 1, F.rs, F.bk⟩) by
    unfold jumpN
    rw [if_neg (by decide), if_neg (by decide), if_neg (by decide), show (a : Int).toNat = a from rfl, hX])
  have ca := h.fr.regD ha
  rw [hX] at ca
  have q3 : (0 : Int) ≤ (a : Int) := by omega
  have q4 : (a : Int) < 32 := by omega
  clear h hg hpc hX
  by_cases hx : X = 0
  all_goals
    have t3 : ((X : Int) == 0) = decide (X = 0) := by rw [Bool.eq_iff_iff]; simp; try omega
    first | rw [decide_eq_true hx] at t3 | rw [decide_eq_false hx] at t3
    have HX := Lib.hid hx
    clear hx
    go_enter Tryd.func11, Tryd.ntmps11
    go_wp2_with fail
    obtain ⟨W0, hW0⟩ : ∃ W0, (w.alloc (.cells #[.int .i64 14, .int .i64 a, .int .i64 B, .int .i64 C, .int .u64 V, .int .i64 M, .int .i64 W] 52)).alloc (.cells #[.int .i64 14, .int .i64 a, .int .i64 B, .int .i64 C, .int .u64 V, .int .i64 0, .int .i64 0] 52) = W0 := ⟨_, rfl⟩
    have hn0 : New w W0 := by rw [← hW0]; exact ((Fr.refl _ _).alloc _).alloc _
    have hb0 : W0.heap[w.heap.size]? = some (.cells #[.int .i64 14, .int .i64 a, .int .i64 B, .int .i64 C, .int .u64 V, .int .i64 M, .int .i64 W] 52 (0, 0)) := by rw [← hW0, block_alloc (by simp)]; exact block_alloc_new _ _
    rw [hW0]
    obtain ⟨xb, hxb⟩ : ∃ xb, w.heap.size = xb := ⟨_, rfl⟩
    have hxf : fb < xb := by omega
    rw [hxb] at hb0 ⊢
    refine (HRT.out _).mono ?_
    rintro e w1 ⟨rfl, hn1⟩
    have hb1 := (hn1.block xb (lt_of_block hb0) id).trans hb0
    have HB1 := Lib.hid hb1
    have HN1 := Lib.hid (hn0.trans hn1)
    have hx1 := lt_of_block hb1
    obtain ⟨y0, y1, y2, y3, y4, y5, y6⟩ := box_cells hb1
    have d0 := (HN1.out.cell hl id o).trans c0
    have zf : ∀ i, w1.frozen? ⟨fb, i, none⟩ = false := fun i => (HN1.out.frozen hl id i).trans (H.out.fr.free i)
    clear hW0 hn0 hb0 hn1 hb1 c0 x0 x1 x2 x3 x4 x5 x6 HRT HI
    have da := (HN1.out.cell hl id _).trans ca
    clear ca
    go_wp2_with fail
    go_quiet (fail)
    have hn2 : New w1 (w1.drewN nq) := (Fr.refl _ _).drewN nq
    have HN2 := Lib.hid (HN1.out.trans hn2)
    clear hn2
    go_wp2
    go_ret2
    rw [HJ.out]
    first
      | (rw [if_pos (by have := HX.out; simpa using this)]
         exact ⟨_, rfl, (H.out.new HN2.out).setPc V, (Fr34.new hl HN2.out).trans (Fr34.set _ (Nat.le_refl _) (by omega)), fun k hk => .inl hk⟩)
      | (rw [if_neg (by have := HX.out; simpa using this), HPC.out]
         exact ⟨_, rfl, (H.out.new HN2.out).setPc _, (Fr34.new hl HN2.out).trans (Fr34.set _ (Nat.le_refl _) (by omega)), fun k hk => .inl hk⟩)

end

end Go.Proofs.YtngpcalgjaglmaaDoor
