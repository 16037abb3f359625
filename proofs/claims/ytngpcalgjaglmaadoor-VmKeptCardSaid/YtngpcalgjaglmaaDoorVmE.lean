/- A step: what comes of each kind of instruction, where nothing goes wrong with a cell. -/
import Derived.Test.YtngpcalgjaglmaaDoorVmB
import Derived.Test.YtngpcalgjaglmaaDoorVmD
namespace Go.Proofs.YtngpcalgjaglmaaDoor
open Go.RowKit

/-- The instruction at place k of the code behind ⟨cg, co⟩. -/
structure InsAt (w : World) (cg co k : Nat) (op A B C : Int) (V : Nat) (M W : Int) : Prop where
  lt : cg < w.heap.size
  c0 : w.cell? ⟨cg, co + k * 7, none⟩ = some (.int .i64 op)
  c1 : w.cell? ⟨cg, co + k * 7 + 1, none⟩ = some (.int .i64 A)
  c2 : w.cell? ⟨cg, co + k * 7 + 2, none⟩ = some (.int .i64 B)
  c3 : w.cell? ⟨cg, co + k * 7 + 3, none⟩ = some (.int .i64 C)
  c4 : w.cell? ⟨cg, co + k * 7 + 4, none⟩ = some (.int .u64 V)
  c5 : w.cell? ⟨cg, co + k * 7 + 5, none⟩ = some (.int .i64 M)
  c6 : w.cell? ⟨cg, co + k * 7 + 6, none⟩ = some (.int .i64 W)
theorem InsAt.keep {w w' : World} {cg co k : Nat} {op A B C : Int} {V : Nat} {M W : Int} {S : Nat → Prop} (h : InsAt w cg co k op A B C V M W) (f : Fr S w w') (hs : ¬ S cg) : InsAt w' cg co k op A B C V M W :=
  ⟨Nat.lt_of_lt_of_le h.lt f.size, (f.cell h.lt hs _).trans h.c0, (f.cell h.lt hs _).trans h.c1, (f.cell h.lt hs _).trans h.c2, (f.cell h.lt hs _).trans h.c3, (f.cell h.lt hs _).trans h.c4, (f.cell h.lt hs _).trans h.c5, (f.cell h.lt hs _).trans h.c6⟩
abbrev goodV (op A B C : Int) (V n : Nat) : Bool := mayB op A B C V 0 0 n (op != 22)
def Stepped (w : World) (fb o : Nat) (v : Value) (R : Int × Fm) (e : Ending) (w' : World) : Prop :=
  ∃ v', e = .returned (.tuple #[.int .i64 R.1, .nilIface]) ∧ FmAt w' fb o v' R.2 ∧ Fr34 fb o w w' ∧ ∀ k, v'.ownBlock = some k → v.ownBlock = some k ∨ w.heap.size ≤ k

set_option maxRecDepth 100000 in
set_option maxHeartbeats 2000000 in
theorem step_out (fb o : Nat) (v cv : Value) (F : Fm) (co : Option Addr) (n cap : Nat) (w : World) (h : FmAt w fb o v F) (hn : n ≤ 9223372036854775807) (hpc : F.pc < 0 ∨ n ≤ F.pc) :
    Calls Tryd.prog 10 #[.pointer (some ⟨fb, o, none⟩), .slice co n cap, cv] w fun e w' => e = .returned (.tuple #[.int .i64 3, .nilIface]) ∧ w' = w := by
  have c0 := h.fr.pc
  generalize F.pc = p at c0 hpc
  clear h
  rcases (show p < 0 ∨ (¬ p < 0 ∧ (n : Int) ≤ p) by omega) with h1 | ⟨h1, h2⟩
  all_goals
    go_enter Tryd.func10, Tryd.ntmps10
    go_wp2
    go_ret2
    exact ⟨rfl, rfl⟩

section
variable (fb o : Nat) (v cv : Value) (F : Fm) (cg co n cap k : Nat) (op A B C : Int) (V : Nat) (M W : Int) (w : World)

set_option maxRecDepth 100000 in
set_option maxHeartbeats 2000000 in
theorem step_bad (h : FmAt w fb o v F) (hi : InsAt w cg co k op A B C V M W) (hk : k < n) (hn : n ≤ 9223372036854775807) (hV : V < 18446744073709551616) (hpc : F.pc = k) (hg : goodV op A B C V n = false) :
    Calls Tryd.prog 10 #[.pointer (some ⟨fb, o, none⟩), .slice (some ⟨cg, co, none⟩) n cap, cv] w fun e w' => e = .returned (.tuple #[.int .i64 3, .nilIface]) ∧ New w w' := by
  have c0 := h.fr.pc
  rw [hpc] at c0
  have HM := Lib.hid (fun w' => vmay_any op A B C V M W n w' hV (by omega) hn)
  unfold goodV at hg
  rw [hg] at HM
  obtain ⟨_, x0, x1, x2, x3, x4, x5, x6⟩ := hi
  have q1 : (0 : Int) ≤ (k : Int) := by omega
  have q2 : (k : Int) < (n : Int) := by omega
  clear h hg hpc
  go_enter Tryd.func10, Tryd.ntmps10
  go_wp2_with (go_at_call 26; refine (HM.out _).mono ?_; rintro e w' ⟨rfl, hn1⟩)
  go_ret2
  exact ⟨rfl, hn1⟩

set_option maxRecDepth 100000 in
set_option maxHeartbeats 4000000 in
theorem step_jump (h : FmAt w fb o v F) (hi : InsAt w cg co k op A B C V M W) (hk : k < n) (hn : n ≤ 1000000) (hV : V < 18446744073709551616) (hpc : F.pc = k) (hg : goodV op A B C V n = true) (ho : 12 ≤ op ∧ op ≤ 16) (hA : op = 13 ∨ op = 14 → 0 ≤ A ∧ A < 32) (hVn : op ≠ 16 → V < n) :
    Calls Tryd.prog 10 #[.pointer (some ⟨fb, o, none⟩), .slice (some ⟨cg, co, none⟩) n cap, cv] w fun e w' => Stepped w fb o v (jumpN op A V F) e w' := by
  have c0 := h.fr.pc
  have hl := h.fr.lt
  rw [hpc] at c0
  have HM := Lib.hid (fun w' => vmay_any op A B C V M W n w' hV (by omega) (by omega))
  unfold goodV at hg
  rw [hg] at HM
  have HJ := Lib.hid (fun w' (f : New w w') => jump_any fb o v F op A B C V M W w' (h.new f) ho hA (fun e => by have := hVn e; omega) (by omega))
  have HI := Lib.hid hi
  obtain ⟨_, x0, x1, x2, x3, x4, x5, x6⟩ := hi
  have q1 : (0 : Int) ≤ (k : Int) := by omega
  have q2 : (k : Int) < (n : Int) := by omega
  generalize hR : jumpN op A V F = R at HJ ⊢
  clear h hg hpc hA hVn hR
  rcases (show op = 12 ∨ op = 13 ∨ op = 14 ∨ op = 15 ∨ op = 16 by omega) with rfl | rfl | rfl | rfl | rfl
  all_goals
    go_enter Tryd.func10, Tryd.ntmps10
    go_wp2_with fail
    refine (HM.out _).mono ?_
    rintro e w1 ⟨rfl, hn1⟩
    obtain ⟨_, y0, y1, y2, y3, y4, y5, y6⟩ := HI.out.keep hn1 id
    have d0 := (hn1.cell hl id _).trans c0
    have HN1 := Lib.hid hn1
    clear c0 x0 x1 x2 x3 x4 x5 x6 hn1
    go_wp2_with fail
    refine (HJ.out _ (HN1.out.alloc _)).mono ?_
    rintro e w2 ⟨v', rfl, hf, h34, ho⟩
    have HF := Lib.hid hf
    have H34 := Lib.hid ((Fr34.new hl (HN1.out.alloc _)).trans h34)
    have HO := Lib.hid (show ∀ k, v'.ownBlock = some k → v.ownBlock = some k ∨ w.heap.size ≤ k from fun k hk => (ho k hk).imp_right (fun e => Nat.le_trans (HN1.out.alloc _).size e))
    clear hf h34 ho
    go_wp2
    go_ret2
    exact ⟨v', rfl, HF.out, H34.out, HO.out⟩

set_option maxRecDepth 100000 in
set_option maxHeartbeats 8000000 in
theorem step_away (h : FmAt w fb o v F) (hi : InsAt w cg co k op A B C V M W) (hk : k < n) (hn : n ≤ 1000000) (hV : V < 18446744073709551616) (hpc : F.pc = k) (hg : goodV op A B C V n = true) (ho : 22 ≤ op) :
    Calls Tryd.prog 10 #[.pointer (some ⟨fb, o, none⟩), .slice (some ⟨cg, co, none⟩) n cap, cv] w fun e w' => e = .returned (.tuple #[.int .i64 1, .nilIface]) ∧ New w w' := by
  have c0 := h.fr.pc
  have hl := h.fr.lt
  rw [hpc] at c0
  have HM := Lib.hid (fun w' => vmay_any op A B C V M W n w' hV (by omega) (by omega))
  unfold goodV at hg
  rw [hg] at HM
  have HI := Lib.hid hi
  obtain ⟨_, x0, x1, x2, x3, x4, x5, x6⟩ := hi
  have q1 : (0 : Int) ≤ (k : Int) := by omega
  have q2 : (k : Int) < (n : Int) := by omega
  have t1 : (op == 1) = false := by rw [beq_eq_false_iff_ne]; omega
  have t2 : (op == 2) = false := by rw [beq_eq_false_iff_ne]; omega
  have t3 : (op == 3) = false := by rw [beq_eq_false_iff_ne]; omega
  have t4 : (op == 4) = false := by rw [beq_eq_false_iff_ne]; omega
  have t5 : (op == 5) = false := by rw [beq_eq_false_iff_ne]; omega
  have t6 : (op == 6) = false := by rw [beq_eq_false_iff_ne]; omega
  have t7 : (op == 7) = false := by rw [beq_eq_false_iff_ne]; omega
  have t8 : (op == 8) = false := by rw [beq_eq_false_iff_ne]; omega
  have t9 : (op == 9) = false := by rw [beq_eq_false_iff_ne]; omega
  have t10 : (op == 10) = false := by rw [beq_eq_false_iff_ne]; omega
  have t11 : (op == 11) = false := by rw [beq_eq_false_iff_ne]; omega
  have t12 : (op == 12) = false := by rw [beq_eq_false_iff_ne]; omega
  have t13 : (op == 13) = false := by rw [beq_eq_false_iff_ne]; omega
  have t14 : (op == 14) = false := by rw [beq_eq_false_iff_ne]; omega
  have t15 : (op == 15) = false := by rw [beq_eq_false_iff_ne]; omega
  have t16 : (op == 16) = false := by rw [beq_eq_false_iff_ne]; omega
  have t17 : (op == 17) = false := by rw [beq_eq_false_iff_ne]; omega
  have t18 : (op == 18) = false := by rw [beq_eq_false_iff_ne]; omega
  have t19 : (op == 19) = false := by rw [beq_eq_false_iff_ne]; omega
  have t20 : (op == 20) = false := by rw [beq_eq_false_iff_ne]; omega
  have t21 : (op == 21) = false := by rw [beq_eq_false_iff_ne]; omega
  clear h hg hpc ho
  go_enter Tryd.func10, Tryd.ntmps10
  go_wp2_with fail
  refine (HM.out _).mono ?_
  rintro e w1 ⟨rfl, hn1⟩
  obtain ⟨_, y0, y1, y2, y3, y4, y5, y6⟩ := HI.out.keep hn1 id
  have d0 := (hn1.cell hl id _).trans c0
  have HN1 := Lib.hid hn1
  clear c0 x0 x1 x2 x3 x4 x5 x6 hn1
  go_wp2
  go_ret2
  exact ⟨rfl, HN1.out.alloc _⟩
end

end Go.Proofs.YtngpcalgjaglmaaDoor
