/- The document's memory: its accesses; how it is made. -/
import Derived.Test.YtngpcalgjaglmaaDoorMemL
import Derived.Test.YtngpcalgjaglmaaDoorStill
namespace Go.Proofs.YtngpcalgjaglmaaDoor
open Go.RowKit
set_option linter.unusedSimpArgs false

theorem rcount_rep {w : World} {b wb hb : Nat} {cs ws : List Nat} {N : Nat} (h : RefRep w b wb hb cs ws N) (hc : N + 1 < 1000000000) (x : Int) (hx : x = ((N + 1 : Nat) : Int)) :
    RefRep (w.setCell ⟨b, 2, none⟩ (.int .i64 x)) b wb hb cs ws (N + 1) := by
  subst hx
  obtain ⟨h1, h2, h3⟩ := h.ne
  exact ⟨h.ne, h.hd.set 2 _, h.widths.setNe h1 _, h.holds.setNe h2 _, h.len, hc, h.fits, h.wide⟩
theorem raccess_rep {w : World} {b wb hb : Nat} {cs ws : List Nat} {N p v : Nat} (h : RefRep w b wb hb cs ws N) (hv : v < 18446744073709551616) (hc : N + 1 < 1000000000) (x : Int) (hx : x = ((N + 1 : Nat) : Int)) :
    RefRep (((w.setCell ⟨b, 2, none⟩ (.int .i64 x)).drew).setCell ⟨hb, p, none⟩ (.int .u64 v)) b wb hb (cs.set p v) ws (N + 1) := by
  have h1 := rcount_rep h hc x hx
  obtain ⟨n1, n2, n3⟩ := h.ne
  refine ⟨h.ne, (h1.hd.drew).setNe (fun e => n2 e.symm) _, (h1.widths.drew).setNe (fun e => n3 e.symm) _, ?_, by rw [List.length_set]; exact h.len, hc, ?_, h.wide⟩
  · rw [← map_set]
    exact (h1.holds.drew).set p _
  · intro y hy
    rcases List.mem_or_eq_of_mem_set hy with hh | rfl
    · exact h.fits y hh
    · exact hv
theorem rcount_fr (w : World) (b hb : Nat) (x : Value) : Fr (fun k => k = b ∨ k = hb) w (w.setCell ⟨b, 2, none⟩ x) :=
  Fr.setCell (S := fun k => k = b ∨ k = hb) (Fr.refl _ _) (fun _ => .inl rfl) _
theorem raccess_fr (w : World) (b hb p : Nat) (x y : Value) : Fr (fun k => k = b ∨ k = hb) w (((w.setCell ⟨b, 2, none⟩ x).drew).setCell ⟨hb, p, none⟩ y) :=
  Fr.setCell (S := fun k => k = b ∨ k = hb) (rcount_fr w b hb x).drew (fun _ => .inr rfl) _

set_option maxRecDepth 100000 in
set_option maxHeartbeats 1000000 in
theorem rdo_store (b wb hb : Nat) (cs ws : List Nat) (N p W c o v : Nat) (w : World) (h : RefRep w b wb hb cs ws N) (hw : ws.getD p 0 = W) (hW : W = 32 ∨ W = 64) (hl : p < ws.length) (hc : cs[p]? = some c) (hct : N + 1 < 1000000000) (hv : v < 18446744073709551616) (ho : o < 18446744073709551616) :
    Calls Tryd.prog 24 #[.pointer (some ⟨b, 0, none⟩), .int .i64 1, .int .u64 p, .int .u64 o, .int .u64 v] w fun e w' => e = .returned (.tuple #[.int .u64 c, .pointer none]) ∧
      RefRep w' b wb hb (cs.set p (cutN W v)) ws (N + 1) ∧ Fr (fun k => k = b ∨ k = hb) w w' := by
  have c0 := h.hd.cell 1 _ rfl
  have c3 := h.hd.cell 2 _ rfl
  have cc := at_map h.holds hc
  have fb := h.hd.free
  have fc := h.holds.free
  have hlen := h.len
  obtain ⟨hlen1, hlen2⟩ := hlen
  have hfew := h.few
  have hcv := h.fits c (List.mem_of_getElem? hc)
  have hb0 : ((W : Int) == 0) = false := by rw [beq_eq_false_iff_ne]; omega
  have hne : hb ≠ b := fun e => h.ne.2.1 e.symm
  have hcall := fun w => rcut_any W v w hv hW
  have hcut := fun w => rcut_any W o w ho hW
  have hwd := rwidth_any b wb hb cs ws N p w h
  rw [hw] at hwd
  have HWD := Lib.hid hwd
  have HC := Lib.hid hcall
  have HO := Lib.hid hcut
  have H := Lib.hid h
  have hz := True.intro
  clear hw hc hW hcall hcut hwd h hlen1
  clear hz
  go_enter Tryd.func24, Tryd.ntmps24
  go_wp2_with (first
    | (go_at_call 44; refine HWD.out.mono ?_; rintro e w' ⟨rfl, rfl⟩)
    | (go_at_call 45; refine (HO.out _).mono ?_; rintro e w' ⟨rfl, rfl⟩))
  obtain ⟨W1, hW1⟩ : ∃ W1, (w.setCell ⟨b, 2, none⟩ (.int .i64 ((N : Int) + 1))).drew = W1 := ⟨_, rfl⟩
  have d0 : W1.cell? ⟨b, 1, none⟩ = some (.slice (some ⟨hb, 0, none⟩) ws.length ws.length) := by rw [← hW1]; exact (cell_set_ne _ (.inr (by omega))).trans c0
  have dc : W1.cell? ⟨hb, p, none⟩ = some (.int .u64 c) := by rw [← hW1]; exact (cell_set_ne _ (.inl (fun e => hne e.symm))).trans cc
  have df : W1.frozen? ⟨hb, p, none⟩ = false := by rw [← hW1]; exact (World.frozen?_setCell _ _ _ _).trans (fc p)
  have HWW := Lib.hid hW1
  refine stillTail 9 (by kernel_rfl) (by kernel_rfl) hW1 ?_
  clear hW1 c0 c3 cc fb fc
  simp only [List.take_succ_cons, List.take_zero, List.drop_succ_cons, List.drop_zero]
  repeat still_step
  still_call ((HC.out _).mono fun _ _ h => ⟨h.1, h.2.symm⟩)
  repeat still_step
  refine wpStill_nil ?_
  go_wp2
  go_ret2
  rw [← HWW.out]
  exact ⟨rfl, raccess_rep H.out (cutN_le W v hv) hct _ (by omega), raccess_fr _ _ _ _ _ _⟩

set_option maxRecDepth 100000 in
set_option maxHeartbeats 1000000 in
theorem rdo_swap (b wb hb : Nat) (cs ws : List Nat) (N p W c o v : Nat) (w : World) (h : RefRep w b wb hb cs ws N) (hw : ws.getD p 0 = W) (hW : W = 32 ∨ W = 64) (hl : p < ws.length) (hc : cs[p]? = some c) (hct : N + 1 < 1000000000) (hv : v < 18446744073709551616) (ho : o < 18446744073709551616) :
    Calls Tryd.prog 24 #[.pointer (some ⟨b, 0, none⟩), .int .i64 2, .int .u64 p, .int .u64 o, .int .u64 v] w fun e w' => e = .returned (.tuple #[.int .u64 c, .pointer none]) ∧
      RefRep w' b wb hb (cs.set p (cutN W v)) ws (N + 1) ∧ Fr (fun k => k = b ∨ k = hb) w w' := by
  have c0 := h.hd.cell 1 _ rfl
  have c3 := h.hd.cell 2 _ rfl
  have cc := at_map h.holds hc
  have fb := h.hd.free
  have fc := h.holds.free
  have hlen := h.len
  obtain ⟨hlen1, hlen2⟩ := hlen
  have hfew := h.few
  have hcv := h.fits c (List.mem_of_getElem? hc)
  have hb0 : ((W : Int) == 0) = false := by rw [beq_eq_false_iff_ne]; omega
  have hne : hb ≠ b := fun e => h.ne.2.1 e.symm
  have hcall := fun w => rcut_any W v w hv hW
  have hcut := fun w => rcut_any W o w ho hW
  have hwd := rwidth_any b wb hb cs ws N p w h
  rw [hw] at hwd
  have HWD := Lib.hid hwd
  have HC := Lib.hid hcall
  have HO := Lib.hid hcut
  have H := Lib.hid h
  have hz := True.intro
  clear hw hc hW hcall hcut hwd h hlen1
  clear hz
  go_enter Tryd.func24, Tryd.ntmps24
  go_wp2_with (first
    | (go_at_call 44; refine HWD.out.mono ?_; rintro e w' ⟨rfl, rfl⟩)
    | (go_at_call 45; refine (HO.out _).mono ?_; rintro e w' ⟨rfl, rfl⟩))
  obtain ⟨W1, hW1⟩ : ∃ W1, (w.setCell ⟨b, 2, none⟩ (.int .i64 ((N : Int) + 1))).drew = W1 := ⟨_, rfl⟩
  have d0 : W1.cell? ⟨b, 1, none⟩ = some (.slice (some ⟨hb, 0, none⟩) ws.length ws.length) := by rw [← hW1]; exact (cell_set_ne _ (.inr (by omega))).trans c0
  have dc : W1.cell? ⟨hb, p, none⟩ = some (.int .u64 c) := by rw [← hW1]; exact (cell_set_ne _ (.inl (fun e => hne e.symm))).trans cc
  have df : W1.frozen? ⟨hb, p, none⟩ = false := by rw [← hW1]; exact (World.frozen?_setCell _ _ _ _).trans (fc p)
  have HWW := Lib.hid hW1
  refine stillTail 9 (by kernel_rfl) (by kernel_rfl) hW1 ?_
  clear hW1 c0 c3 cc fb fc
  simp only [List.take_succ_cons, List.take_zero, List.drop_succ_cons, List.drop_zero]
  repeat still_step
  still_call ((HC.out _).mono fun _ _ h => ⟨h.1, h.2.symm⟩)
  repeat still_step
  refine wpStill_nil ?_
  go_wp2
  go_ret2
  rw [← HWW.out]
  exact ⟨rfl, raccess_rep H.out (cutN_le W v hv) hct _ (by omega), raccess_fr _ _ _ _ _ _⟩

set_option maxRecDepth 100000 in
set_option maxHeartbeats 1000000 in
theorem rdo_add (b wb hb : Nat) (cs ws : List Nat) (N p W c o v : Nat) (w : World) (h : RefRep w b wb hb cs ws N) (hw : ws.getD p 0 = W) (hW : W = 32 ∨ W = 64) (hl : p < ws.length) (hc : cs[p]? = some c) (hct : N + 1 < 1000000000) (hv : v < 18446744073709551616) (ho : o < 18446744073709551616) :
    Calls Tryd.prog 24 #[.pointer (some ⟨b, 0, none⟩), .int .i64 3, .int .u64 p, .int .u64 o, .int .u64 v] w fun e w' => e = .returned (.tuple #[.int .u64 c, .pointer none]) ∧
      RefRep w' b wb hb (cs.set p (sumN W c v)) ws (N + 1) ∧ Fr (fun k => k = b ∨ k = hb) w w' := by
  have c0 := h.hd.cell 1 _ rfl
  have c3 := h.hd.cell 2 _ rfl
  have cc := at_map h.holds hc
  have fb := h.hd.free
  have fc := h.holds.free
  have hlen := h.len
  obtain ⟨hlen1, hlen2⟩ := hlen
  have hfew := h.few
  have hcv := h.fits c (List.mem_of_getElem? hc)
  have hb0 : ((W : Int) == 0) = false := by rw [beq_eq_false_iff_ne]; omega
  have hne : hb ≠ b := fun e => h.ne.2.1 e.symm
  have hcall := fun w => rsum_any W c v w hcv hv hW
  have hcut := fun w => rcut_any W o w ho hW
  have hwd := rwidth_any b wb hb cs ws N p w h
  rw [hw] at hwd
  have HWD := Lib.hid hwd
  have HC := Lib.hid hcall
  have HO := Lib.hid hcut
  have H := Lib.hid h
  have hz := True.intro
  clear hw hc hW hcall hcut hwd h hlen1
  clear hz
  go_enter Tryd.func24, Tryd.ntmps24
  go_wp2_with (first
    | (go_at_call 44; refine HWD.out.mono ?_; rintro e w' ⟨rfl, rfl⟩)
    | (go_at_call 45; refine (HO.out _).mono ?_; rintro e w' ⟨rfl, rfl⟩))
  obtain ⟨W1, hW1⟩ : ∃ W1, (w.setCell ⟨b, 2, none⟩ (.int .i64 ((N : Int) + 1))).drew = W1 := ⟨_, rfl⟩
  have d0 : W1.cell? ⟨b, 1, none⟩ = some (.slice (some ⟨hb, 0, none⟩) ws.length ws.length) := by rw [← hW1]; exact (cell_set_ne _ (.inr (by omega))).trans c0
  have dc : W1.cell? ⟨hb, p, none⟩ = some (.int .u64 c) := by rw [← hW1]; exact (cell_set_ne _ (.inl (fun e => hne e.symm))).trans cc
  have df : W1.frozen? ⟨hb, p, none⟩ = false := by rw [← hW1]; exact (World.frozen?_setCell _ _ _ _).trans (fc p)
  have HWW := Lib.hid hW1
  refine stillTail 10 (by kernel_rfl) (by kernel_rfl) hW1 ?_
  clear hW1 c0 c3 cc fb fc
  simp only [List.take_succ_cons, List.take_zero, List.drop_succ_cons, List.drop_zero]
  repeat still_step
  still_call ((HC.out _).mono fun _ _ h => ⟨h.1, h.2.symm⟩)
  repeat still_step
  refine wpStill_nil ?_
  go_wp2
  go_ret2
  rw [← HWW.out]
  exact ⟨rfl, raccess_rep H.out (sumN_le W c v) hct _ (by omega), raccess_fr _ _ _ _ _ _⟩

set_option maxRecDepth 100000 in
set_option maxHeartbeats 1000000 in
theorem rdo_casyes (b wb hb : Nat) (cs ws : List Nat) (N p W c o v : Nat) (w : World) (h : RefRep w b wb hb cs ws N) (hw : ws.getD p 0 = W) (hW : W = 32 ∨ W = 64) (hl : p < ws.length) (hc : cs[p]? = some c) (hct : N + 1 < 1000000000) (hv : v < 18446744073709551616) (ho : o < 18446744073709551616) (he : c = cutN W o) :
    Calls Tryd.prog 24 #[.pointer (some ⟨b, 0, none⟩), .int .i64 4, .int .u64 p, .int .u64 o, .int .u64 v] w fun e w' => e = .returned (.tuple #[.int .u64 c, .pointer none]) ∧
      RefRep w' b wb hb (cs.set p (cutN W v)) ws (N + 1) ∧ Fr (fun k => k = b ∨ k = hb) w w' := by
  have c0 := h.hd.cell 1 _ rfl
  have c3 := h.hd.cell 2 _ rfl
  have cc := at_map h.holds hc
  have fb := h.hd.free
  have fc := h.holds.free
  have hlen := h.len
  obtain ⟨hlen1, hlen2⟩ := hlen
  have hfew := h.few
  have hcv := h.fits c (List.mem_of_getElem? hc)
  have hb0 : ((W : Int) == 0) = false := by rw [beq_eq_false_iff_ne]; omega
  have hne : hb ≠ b := fun e => h.ne.2.1 e.symm
  have hcall := fun w => rcut_any W v w hv hW
  have hcut := fun w => rcut_any W o w ho hW
  have hwd := rwidth_any b wb hb cs ws N p w h
  rw [hw] at hwd
  have HWD := Lib.hid hwd
  have HC := Lib.hid hcall
  have HO := Lib.hid hcut
  have H := Lib.hid h
  have hbe : ((c : Int) == (cutN W o : Nat)) = true := by simp [he]
  clear hw hc hW hcall hcut hwd h hlen1
  clear he
  go_enter Tryd.func24, Tryd.ntmps24
  go_wp2_with (first
    | (go_at_call 44; refine HWD.out.mono ?_; rintro e w' ⟨rfl, rfl⟩)
    | (go_at_call 45; refine (HO.out _).mono ?_; rintro e w' ⟨rfl, rfl⟩))
  obtain ⟨W1, hW1⟩ : ∃ W1, (w.setCell ⟨b, 2, none⟩ (.int .i64 ((N : Int) + 1))).drew = W1 := ⟨_, rfl⟩
  have d0 : W1.cell? ⟨b, 1, none⟩ = some (.slice (some ⟨hb, 0, none⟩) ws.length ws.length) := by rw [← hW1]; exact (cell_set_ne _ (.inr (by omega))).trans c0
  have dc : W1.cell? ⟨hb, p, none⟩ = some (.int .u64 c) := by rw [← hW1]; exact (cell_set_ne _ (.inl (fun e => hne e.symm))).trans cc
  have df : W1.frozen? ⟨hb, p, none⟩ = false := by rw [← hW1]; exact (World.frozen?_setCell _ _ _ _).trans (fc p)
  have HWW := Lib.hid hW1
  refine stillTail 9 (by kernel_rfl) (by kernel_rfl) hW1 ?_
  clear hW1 c0 c3 cc fb fc
  simp only [List.take_succ_cons, List.take_zero, List.drop_succ_cons, List.drop_zero]
  repeat still_step
  still_call ((HC.out _).mono fun _ _ h => ⟨h.1, h.2.symm⟩)
  repeat still_step
  refine wpStill_nil ?_
  go_wp2
  go_ret2
  rw [← HWW.out]
  exact ⟨rfl, raccess_rep H.out (cutN_le W v hv) hct _ (by omega), raccess_fr _ _ _ _ _ _⟩

set_option maxRecDepth 100000 in
set_option maxHeartbeats 1000000 in
theorem rdo_load (b wb hb : Nat) (cs ws : List Nat) (N p W c o v : Nat) (w : World) (h : RefRep w b wb hb cs ws N) (hw : ws.getD p 0 = W) (hW : W = 32 ∨ W = 64) (hl : p < ws.length) (hc : cs[p]? = some c) (hct : N + 1 < 1000000000) (ho : o < 18446744073709551616) :
    Calls Tryd.prog 24 #[.pointer (some ⟨b, 0, none⟩), .int .i64 0, .int .u64 p, .int .u64 o, .int .u64 v] w fun e w' => e = .returned (.tuple #[.int .u64 c, .pointer none]) ∧
      RefRep w' b wb hb cs ws (N + 1) ∧ Fr (fun k => k = b ∨ k = hb) w w' := by
  have c0 := h.hd.cell 1 _ rfl
  have c3 := h.hd.cell 2 _ rfl
  have cc := at_map h.holds hc
  have fb := h.hd.free
  have hlen := h.len
  obtain ⟨hlen1, hlen2⟩ := hlen
  have hfew := h.few
  have hb0 : ((W : Int) == 0) = false := by rw [beq_eq_false_iff_ne]; omega
  have hne : hb ≠ b := fun e => h.ne.2.1 e.symm
  have hcut := fun w => rcut_any W o w ho hW
  have hwd := rwidth_any b wb hb cs ws N p w h
  rw [hw] at hwd
  have HWD := Lib.hid hwd
  have HO := Lib.hid hcut
  have H := Lib.hid h
  have hz := True.intro
  clear hw hc hW hcut hwd h hlen1
  clear hz
  go_enter Tryd.func24, Tryd.ntmps24
  go_wp2_with (first
    | (go_at_call 44; refine HWD.out.mono ?_; rintro e w' ⟨rfl, rfl⟩)
    | (go_at_call 45; refine (HO.out _).mono ?_; rintro e w' ⟨rfl, rfl⟩))
  go_ret2
  exact ⟨rfl, rcount_rep H.out hct _ (by omega), rcount_fr _ _ _ _⟩

set_option maxRecDepth 100000 in
set_option maxHeartbeats 1000000 in
theorem rdo_casno (b wb hb : Nat) (cs ws : List Nat) (N p W c o v : Nat) (w : World) (h : RefRep w b wb hb cs ws N) (hw : ws.getD p 0 = W) (hW : W = 32 ∨ W = 64) (hl : p < ws.length) (hc : cs[p]? = some c) (hct : N + 1 < 1000000000) (ho : o < 18446744073709551616) (he : c ≠ cutN W o) :
    Calls Tryd.prog 24 #[.pointer (some ⟨b, 0, none⟩), .int .i64 4, .int .u64 p, .int .u64 o, .int .u64 v] w fun e w' => e = .returned (.tuple #[.int .u64 c, .pointer none]) ∧
      RefRep w' b wb hb cs ws (N + 1) ∧ Fr (fun k => k = b ∨ k = hb) w w' := by
  have c0 := h.hd.cell 1 _ rfl
  have c3 := h.hd.cell 2 _ rfl
  have cc := at_map h.holds hc
  have fb := h.hd.free
  have hlen := h.len
  obtain ⟨hlen1, hlen2⟩ := hlen
  have hfew := h.few
  have hb0 : ((W : Int) == 0) = false := by rw [beq_eq_false_iff_ne]; omega
  have hne : hb ≠ b := fun e => h.ne.2.1 e.symm
  have hcut := fun w => rcut_any W o w ho hW
  have hwd := rwidth_any b wb hb cs ws N p w h
  rw [hw] at hwd
  have HWD := Lib.hid hwd
  have HO := Lib.hid hcut
  have H := Lib.hid h
  have hbe : ((c : Int) == (cutN W o : Nat)) = false := beq_eq_false_iff_ne.2 (by omega)
  clear hw hc hW hcut hwd h hlen1
  clear he
  go_enter Tryd.func24, Tryd.ntmps24
  go_wp2_with (first
    | (go_at_call 44; refine HWD.out.mono ?_; rintro e w' ⟨rfl, rfl⟩)
    | (go_at_call 45; refine (HO.out _).mono ?_; rintro e w' ⟨rfl, rfl⟩))
  go_ret2
  exact ⟨rfl, rcount_rep H.out hct _ (by omega), rcount_fr _ _ _ _⟩

set_option maxRecDepth 100000 in
set_option maxHeartbeats 1000000 in
theorem rdo_gone (kind : Int) (b wb hb : Nat) (cs ws : List Nat) (N p o v : Nat) (w : World) (h : RefRep w b wb hb cs ws N) (hw : ws.getD p 0 = 0) (hp : p < 18446744073709551616) :
    Calls Tryd.prog 24 #[.pointer (some ⟨b, 0, none⟩), .int .i64 kind, .int .u64 p, .int .u64 o, .int .u64 v] w fun e w' => ∃ f, e = .returned (.tuple #[.int .u64 0, f]) ∧ SaysF w' memL f (some (gonePlace p, 2)) ∧ New w w' := by
  have hwd := rwidth_any b wb hb cs ws N p w h
  rw [hw] at hwd
  have HW := Lib.hid hwd
  unfold gonePlace
  clear h hwd hw
  by_cases hp2 : p ≤ 4611686018427387904
  · rw [if_pos hp2]
    go_enter Tryd.func24, Tryd.ntmps24
    go_wp2_with (first
      | (go_at_call 44; refine HW.out.mono ?_; rintro e w' ⟨rfl, rfl⟩)
      | (go_at_call 16; refine (no_ref _ _ _).mono ?_; rintro e w1 ⟨f, rfl, hf, hn⟩))
    go_ret2
    exact ⟨f, rfl, hf, hn⟩
  · rw [if_neg hp2]
    go_enter Tryd.func24, Tryd.ntmps24
    go_wp2_with (first
      | (go_at_call 44; refine HW.out.mono ?_; rintro e w' ⟨rfl, rfl⟩)
      | (go_at_call 16; refine (no_ref _ _ _).mono ?_; rintro e w1 ⟨f, rfl, hf, hn⟩))
    go_ret2
    exact ⟨f, rfl, hf, hn⟩

theorem rdo_any (kind b wb hb : Nat) (cs ws : List Nat) (N p o v : Nat) (w : World) (hk : kind ≤ 4) (h : RefRep w b wb hb cs ws N) (hct : N + 1 < 1000000000) (hv : v < 18446744073709551616) (ho : o < 18446744073709551616) (hp : p < 18446744073709551616) :
    Calls Tryd.prog 24 #[.pointer (some ⟨b, 0, none⟩), .int .i64 kind, .int .u64 p, .int .u64 o, .int .u64 v] w fun e w' => ∃ f, e = .returned (.tuple #[.int .u64 (accVal cs ws p : Nat), f]) ∧ SaysF w' memL f (accErr ws p) ∧
      RefRep w' b wb hb (accCs kind cs ws p o v) ws (accN ws p N) ∧ Fr (fun k => accErr ws p = none ∧ (k = b ∨ k = hb)) w w' := by
  unfold accVal accErr accCs accN
  by_cases hw : ws.getD p 0 = 0
  · simp only [if_pos hw]
    refine (rdo_gone kind b wb hb cs ws N p o v w h hw hp).mono ?_
    rintro e w1 ⟨f, rfl, hf, hn⟩
    exact ⟨_, rfl, hf, h.keep hn id id id, hn.mono (fun _ _ h => h.elim)⟩
  · simp only [if_neg hw]
    have hl : p < ws.length := by
      rcases Nat.lt_or_ge p ws.length with hh | hh
      · exact hh
      · exact absurd (by rw [List.getD_eq_getElem?_getD, List.getElem?_eq_none hh]; rfl) hw
    have hc := getD_get (show p < cs.length by rw [h.len.1]; exact hl)
    have hW : ws.getD p 0 = 32 ∨ ws.getD p 0 = 64 := by have := h.wide _ (List.mem_of_getElem? (getD_get hl)); omega
    have fin : ∀ {X : List Nat} {e : Ending} {w1 : World}, e = .returned (.tuple #[.int .u64 (cs.getD p 0 : Nat), .pointer none]) ∧ RefRep w1 b wb hb X ws (N + 1) ∧ Fr (fun k => k = b ∨ k = hb) w w1 →
        ∃ f, e = .returned (.tuple #[.int .u64 (cs.getD p 0 : Nat), f]) ∧ SaysF w1 memL f none ∧ RefRep w1 b wb hb X ws (N + 1) ∧ Fr (fun k => True ∧ (k = b ∨ k = hb)) w w1 :=
      fun ⟨h1, h2, h3⟩ => ⟨_, h1, rfl, h2, h3.mono (fun _ _ h => ⟨trivial, h⟩)⟩
    match kind, hk with
    | 0, _ => exact (rdo_load b wb hb cs ws N p _ _ o v w h rfl hW hl hc hct ho).mono fun e w' ⟨h1, h2, h3⟩ => fin ⟨h1, by rw [show laidBy 0 (ws.getD p 0) (cs.getD p 0) o v = cs.getD p 0 from rfl, set_self hc]; exact h2, h3⟩
    | 1, _ => exact (rdo_store b wb hb cs ws N p _ _ o v w h rfl hW hl hc hct hv ho).mono fun e w' h => fin h
    | 2, _ => exact (rdo_swap b wb hb cs ws N p _ _ o v w h rfl hW hl hc hct hv ho).mono fun e w' h => fin h
    | 3, _ => exact (rdo_add b wb hb cs ws N p _ _ o v w h rfl hW hl hc hct hv ho).mono fun e w' h => fin h
    | 4, _ =>
      by_cases he : cs.getD p 0 = cutN (ws.getD p 0) o
      · exact (rdo_casyes b wb hb cs ws N p _ _ o v w h rfl hW hl hc hct hv ho he).mono fun e w' ⟨h1, h2, h3⟩ => fin ⟨h1, by rw [show laidBy 4 (ws.getD p 0) (cs.getD p 0) o v = cutN (ws.getD p 0) v by unfold laidBy; rw [if_neg (by omega), if_neg (by omega), if_pos rfl, if_pos he]]; exact h2, h3⟩
      · exact (rdo_casno b wb hb cs ws N p _ _ o v w h rfl hW hl hc hct ho he).mono fun e w' ⟨h1, h2, h3⟩ => fin ⟨h1, by rw [show laidBy 4 (ws.getD p 0) (cs.getD p 0) o v = cs.getD p 0 by unfold laidBy; rw [if_neg (by omega), if_neg (by omega), if_pos rfl, if_neg he], set_self hc]; exact h2, h3⟩
    | k + 5, hk => omega

theorem intInfo : (Tryd.prog.info? 3).map (fun i => (i.zero, i.size, i.bytes)) = some (some (.int .i64 0), 1, 8) := by kernel_rfl
theorem rnew_rep {w2 : World} {b cb wb n : Nat} {w3 : World} (hc : Arr w2 cb ((List.replicate n 0).map fun x : Nat => Value.int .i64 x)) (hw : Arr w2 wb ((List.replicate n 0).map fun x : Nat => Value.int .u64 x)) (hne : cb ≠ wb) (hn : n ≤ 65536)
    (h3 : w3 = w2.alloc (.cells #[.slice (some ⟨cb, 0, none⟩) n n, .slice (some ⟨wb, 0, none⟩) n n, .int .i64 0] 94)) (hb : b = w2.heap.size) :
    RefRep w3 b cb wb (List.replicate n 0) (List.replicate n 0) 0 := by
  subst h3; subst hb
  have := hc.lt
  have := hw.lt
  refine ⟨by omega, ?_, hc.alloc _, hw.alloc _, by simp; omega, by omega, ?_, ?_⟩
  · rw [List.length_replicate]; exact Arr.new _ _ _
  · intro x hx; rw [(List.mem_replicate.1 hx).2]; omega
  · intro x hx; exact .inl (List.mem_replicate.1 hx).2

set_option maxRecDepth 100000 in
set_option maxHeartbeats 1000000 in
theorem rnew_any (n : Nat) (w : World) (h1 : 1 ≤ n) (h2 : n ≤ 65536) :
    Calls Tryd.prog 20 #[.int .i64 n] w fun e w' => ∃ b cb wb, e = .returned (.tuple #[.pointer (some ⟨b, 0, none⟩), .pointer none]) ∧ w.heap.size ≤ b ∧ w.heap.size ≤ cb ∧ w.heap.size ≤ wb ∧
      RefRep w' b cb wb (List.replicate n 0) (List.replicate n 0) 0 ∧ New w w' := by
  obtain ⟨i0, hi, hz0, hz1, hz2⟩ := info_parts intInfo
  obtain ⟨i1, hj, hy0, hy1, hy2⟩ := info_parts u64Info
  go_enter Tryd.func20, Tryd.ntmps20
  go_wp2_with fail
  refine regStart (by kernel_rfl) ?_
  refine wpAnyH_take (i := 0) (v := ?_) rfl (by kernel_rfl) (by kernel_rfl) (by kernel_rfl) (fun _ _ _ h => h) (Or.inl ⟨by rfl, ?_⟩) trivial ?_
  rotate_left
  · intro w _; go_simp; rfl
  refine wpAnyH_take (i := 2) (v := ?_) rfl (by kernel_rfl) (by kernel_rfl) (by kernel_rfl) (fun _ _ _ h => h) (Or.inl ⟨by rfl, ?_⟩) trivial ?_
  rotate_left
  · intro w _; go_simp; rfl
  refine regEither (i := 1) (j := 3) (by kernel_rfl) rfl rfl (by rfl) (by rfl) (fun K hK => ?_) (fun K hK => ?_)
  · refine opMakeFull _ (.tmp 11) (.tmp 11) 24 rfl w.heap.size 3 i0 _ 1 Tryd.underlying24 hi hz0 hz1 .i64 .i64 n n n rfl rfl rfl rfl (by rw [hz2]; omega) (by unfold maxLen; omega) (by simp) ?_
    intro w1 hown hg
    refine hK.out _ _ ?_
    clear hK K
    simp only [Act.put, List.setIfInBounds_toArray]
    refine regOne (i := 3) (by kernel_rfl) rfl (by rfl) (fun K hK => ?_)
    refine opMakeFull _ (.tmp 13) (.tmp 13) 23 rfl w1.heap.size 47 i1 _ 1 Tryd.underlying23 hj hy0 hy1 .i64 .i64 n n n rfl rfl rfl rfl (by rw [hy2]; omega) (by unfold maxLen; omega) (Nat.le_refl _) ?_
    intro w2 hown2 hg2
    refine hK.out _ _ ?_
    clear hK K
    simp only [Act.put]
    have hlt1 : w.drew.heap.size < w1.heap.size := (hown.lt _ rfl).2
    have hR := rnew_rep (w2 := w2) (b := w2.heap.size) ((arr_zero hown).keep ((Fr.refl (fun _ => False) w1).grown hg2 (fun _ h => by cases h)) id) (arr_zero hown2) (by omega) h2 rfl rfl
    have hF := (((Fr.refl (fun _ => False) w).drew.grown hg (fun _ h => by cases h)).grown hg2 (fun _ h => by cases h)).alloc (.cells #[.slice (some ⟨w.drew.heap.size, 0, none⟩) n n, .slice (some ⟨w1.heap.size, 0, none⟩) n n, .int .i64 0] 94)
    have hs2 := hg2.size
    have hs1 : w.drew.heap.size = w.heap.size := rfl
    have HR := Lib.hid hR
    have HF := Lib.hid hF
    clear hR hF hown hown2 hg hg2
    refine regOne (i := 4) (by kernel_rfl) rfl (by rfl) (fun K hK => ?_)
    go_simp
    refine hK.out _ _ ?_
    clear hK K
    refine regOne (i := 5) (by kernel_rfl) rfl (by rfl) (fun K hK => ?_)
    go_simp
    refine hK.out _ _ ?_
    clear hK K
    refine regOne (i := 6) (by kernel_rfl) rfl (by rfl) (fun K hK => ?_)
    go_simp
    refine hK.out _ _ ?_
    clear hK K
    refine regOne (i := 7) (by kernel_rfl) rfl (by rfl) (fun K hK => ?_)
    go_simp
    refine hK.out _ _ ?_
    clear hK K
    refine wpAnyH_done (by kernel_rfl) ?_ _
    go_wp2
    go_ret2
    exact ⟨w2.heap.size, _, _, rfl, by omega, by omega, by omega, HR.out, HF.out⟩
  · refine opMakeFull _ (.tmp 13) (.tmp 13) 23 rfl w.heap.size 47 i1 _ 1 Tryd.underlying23 hj hy0 hy1 .i64 .i64 n n n rfl rfl rfl rfl (by rw [hy2]; omega) (by unfold maxLen; omega) (by simp) ?_
    intro w1 hown hg
    refine hK.out _ _ ?_
    clear hK K
    simp only [Act.put, List.setIfInBounds_toArray]
    refine regOne (i := 1) (by kernel_rfl) rfl (by rfl) (fun K hK => ?_)
    refine opMakeFull _ (.tmp 11) (.tmp 11) 24 rfl w1.heap.size 3 i0 _ 1 Tryd.underlying24 hi hz0 hz1 .i64 .i64 n n n rfl rfl rfl rfl (by rw [hz2]; omega) (by unfold maxLen; omega) (Nat.le_refl _) ?_
    intro w2 hown2 hg2
    refine hK.out _ _ ?_
    clear hK K
    simp only [Act.put]
    have hlt1 : w.drew.heap.size < w1.heap.size := (hown.lt _ rfl).2
    have hR := rnew_rep (w2 := w2) (b := w2.heap.size) (arr_zero hown2) ((arr_zero hown).keep ((Fr.refl (fun _ => False) w1).grown hg2 (fun _ h => by cases h)) id) (by omega) h2 rfl rfl
    have hF := (((Fr.refl (fun _ => False) w).drew.grown hg (fun _ h => by cases h)).grown hg2 (fun _ h => by cases h)).alloc (.cells #[.slice (some ⟨w1.heap.size, 0, none⟩) n n, .slice (some ⟨w.drew.heap.size, 0, none⟩) n n, .int .i64 0] 94)
    have hs2 := hg2.size
    have hs1 : w.drew.heap.size = w.heap.size := rfl
    have HR := Lib.hid hR
    have HF := Lib.hid hF
    clear hR hF hown hown2 hg hg2
    refine regOne (i := 4) (by kernel_rfl) rfl (by rfl) (fun K hK => ?_)
    go_simp
    refine hK.out _ _ ?_
    clear hK K
    refine regOne (i := 5) (by kernel_rfl) rfl (by rfl) (fun K hK => ?_)
    go_simp
    refine hK.out _ _ ?_
    clear hK K
    refine regOne (i := 6) (by kernel_rfl) rfl (by rfl) (fun K hK => ?_)
    go_simp
    refine hK.out _ _ ?_
    clear hK K
    refine regOne (i := 7) (by kernel_rfl) rfl (by rfl) (fun K hK => ?_)
    go_simp
    refine hK.out _ _ ?_
    clear hK K
    refine wpAnyH_done (by kernel_rfl) ?_ _
    go_wp2
    go_ret2
    exact ⟨w2.heap.size, _, _, rfl, by omega, by omega, by omega, HR.out, HF.out⟩

end Go.Proofs.YtngpcalgjaglmaaDoor
