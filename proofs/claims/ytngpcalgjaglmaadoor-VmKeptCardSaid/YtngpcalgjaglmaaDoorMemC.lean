/- The accesses that lay a new value, and the methods that do them. -/
import Derived.Test.YtngpcalgjaglmaaDoorMemB
namespace Go.Proofs.YtngpcalgjaglmaaDoor
open Go.RowKit

set_option maxRecDepth 100000 in
set_option maxHeartbeats 1000000 in
theorem access_swap (b cb wb : Nat) (cs ws : List Nat) (th ct p W c o v : Nat) (w : World) (h : MemRep w b cb wb cs ws th ct) (hw : ws[p]? = some W) (hW : W = 32 ∨ W = 64) (hc : cs[p]? = some c) (hct : ct + 1 < 1000000000) (hv : v < 18446744073709551616) :
    Calls Tryd.prog 43 #[.pointer (some ⟨b, 0, none⟩), .int .i64 2, .int .u64 p, .int .u64 o, .int .u64 v] w fun e w' => e = .returned (.tuple #[.int .u64 c, .nilIface]) ∧
      MemRep w' b cb wb (cs.set p (cutN W v)) ws th (ct + 1) ∧ Fr (fun k => k = b ∨ k = cb) w w' := by
  have c0 := h.hd.cell 0 _ rfl
  have c3 := h.hd.cell 3 _ rfl
  have cc := at_map h.cells hc
  have fb := h.hd.free
  have fc := h.cells.free
  have hl := h.len.2
  have hlt : p < cs.length := (List.getElem?_eq_some_iff.1 hc).1
  have hb : ((W : Int) == 0) = false := by rw [beq_eq_false_iff_ne]; omega
  have hne : cb ≠ b := fun e => h.ne.1 e.symm
  have HW := Lib.hid hw
  have HW2 := Lib.hid hW
  have H := Lib.hid h
  have hcall := fun w => cut_any W v w hv hW
  have HC := Lib.hid hcall
  clear hw hc hW hcall
  go_enter Tryd.func43, Tryd.ntmps43
  go_wp2_with (go_at_call 62; refine (width_at b cb wb cs ws th ct p W _ H.out HW.out).mono ?_; rintro e w' ⟨rfl, rfl⟩)
  obtain ⟨W1, hW1⟩ : ∃ W1, (w.setCell ⟨b, 3, none⟩ (.int .i64 ((ct : Int) + 1))).drew = W1 := ⟨_, rfl⟩
  have d0 : W1.cell? ⟨b, 0, none⟩ = some (.slice (some ⟨cb, 0, none⟩) cs.length cs.length) := by rw [← hW1]; exact (cell_set_ne _ (.inr (by omega))).trans c0
  have dc : W1.cell? ⟨cb, p, none⟩ = some (.int .u64 c) := by rw [← hW1]; exact (cell_set_ne _ (.inl (fun e => hne e.symm))).trans cc
  have df : W1.frozen? ⟨cb, p, none⟩ = false := by rw [← hW1]; exact (World.frozen?_setCell _ _ _ _).trans (fc p)
  have HWW := Lib.hid hW1
  refine stillTail 9 (by kernel_rfl) (by kernel_rfl) hW1 ?_
  clear hW1 c0 c3 cc fb fc
  simp only [List.take_succ_cons, List.take_zero, List.drop_succ_cons, List.drop_zero]
  repeat still_step
  still_call ((HC.out _).mono fun _ _ h => ⟨h.1, h.2.symm⟩)
  repeat still_step
  refine wpStill_nil ?_
  go_wp2
  go_ret2
  rw [← HWW.out]
  exact ⟨rfl, access_rep H.out (cutN_le W v hv) hct _ (by omega), access_fr _ _ _ _ _ _⟩

set_option maxRecDepth 100000 in
set_option maxHeartbeats 1000000 in
theorem access_add (b cb wb : Nat) (cs ws : List Nat) (th ct p W c o v : Nat) (w : World) (h : MemRep w b cb wb cs ws th ct) (hw : ws[p]? = some W) (hW : W = 32 ∨ W = 64) (hc : cs[p]? = some c) (hct : ct + 1 < 1000000000) (hv : v < 18446744073709551616) :
    Calls Tryd.prog 43 #[.pointer (some ⟨b, 0, none⟩), .int .i64 3, .int .u64 p, .int .u64 o, .int .u64 v] w fun e w' => e = .returned (.tuple #[.int .u64 c, .nilIface]) ∧
      MemRep w' b cb wb (cs.set p (sumN W c v)) ws th (ct + 1) ∧ Fr (fun k => k = b ∨ k = cb) w w' := by
  have c0 := h.hd.cell 0 _ rfl
  have c3 := h.hd.cell 3 _ rfl
  have cc := at_map h.cells hc
  have fb := h.hd.free
  have fc := h.cells.free
  have hl := h.len.2
  have hlt : p < cs.length := (List.getElem?_eq_some_iff.1 hc).1
  have hb : ((W : Int) == 0) = false := by rw [beq_eq_false_iff_ne]; omega
  have hne : cb ≠ b := fun e => h.ne.1 e.symm
  have HW := Lib.hid hw
  have HW2 := Lib.hid hW
  have H := Lib.hid h
  have hcv := h.fits c (List.mem_of_getElem? hc)
  have hcall := fun w => sum_any W c v w hcv hv hW
  have HC := Lib.hid hcall
  clear hw hc hW hcall
  go_enter Tryd.func43, Tryd.ntmps43
  go_wp2_with (go_at_call 62; refine (width_at b cb wb cs ws th ct p W _ H.out HW.out).mono ?_; rintro e w' ⟨rfl, rfl⟩)
  obtain ⟨W1, hW1⟩ : ∃ W1, (w.setCell ⟨b, 3, none⟩ (.int .i64 ((ct : Int) + 1))).drew = W1 := ⟨_, rfl⟩
  have d0 : W1.cell? ⟨b, 0, none⟩ = some (.slice (some ⟨cb, 0, none⟩) cs.length cs.length) := by rw [← hW1]; exact (cell_set_ne _ (.inr (by omega))).trans c0
  have dc : W1.cell? ⟨cb, p, none⟩ = some (.int .u64 c) := by rw [← hW1]; exact (cell_set_ne _ (.inl (fun e => hne e.symm))).trans cc
  have df : W1.frozen? ⟨cb, p, none⟩ = false := by rw [← hW1]; exact (World.frozen?_setCell _ _ _ _).trans (fc p)
  have HWW := Lib.hid hW1
  refine stillTail 10 (by kernel_rfl) (by kernel_rfl) hW1 ?_
  clear hW1 c0 c3 cc fb fc
  simp only [List.take_succ_cons, List.take_zero, List.drop_succ_cons, List.drop_zero]
  repeat still_step
  still_call ((HC.out _).mono fun _ _ h => ⟨h.1, h.2.symm⟩)
  repeat still_step
  refine wpStill_nil ?_
  go_wp2
  go_ret2
  rw [← HWW.out]
  exact ⟨rfl, access_rep H.out (sumN_le W c v) hct _ (by omega), access_fr _ _ _ _ _ _⟩

set_option maxRecDepth 100000 in
set_option maxHeartbeats 1000000 in
theorem access_cas_yes (b cb wb : Nat) (cs ws : List Nat) (th ct p W c o v : Nat) (w : World) (h : MemRep w b cb wb cs ws th ct) (hw : ws[p]? = some W) (hW : W = 32 ∨ W = 64) (hc : cs[p]? = some c) (hct : ct + 1 < 1000000000) (hv : v < 18446744073709551616) (ho : o < 18446744073709551616) (he : c = cutN W o) :
    Calls Tryd.prog 43 #[.pointer (some ⟨b, 0, none⟩), .int .i64 4, .int .u64 p, .int .u64 o, .int .u64 v] w fun e w' => e = .returned (.tuple #[.int .u64 c, .nilIface]) ∧
      MemRep w' b cb wb (cs.set p (cutN W v)) ws th (ct + 1) ∧ Fr (fun k => k = b ∨ k = cb) w w' := by
  have c0 := h.hd.cell 0 _ rfl
  have c3 := h.hd.cell 3 _ rfl
  have cc := at_map h.cells hc
  have fb := h.hd.free
  have fc := h.cells.free
  have hl := h.len.2
  have hlt : p < cs.length := (List.getElem?_eq_some_iff.1 hc).1
  have hb : ((W : Int) == 0) = false := by rw [beq_eq_false_iff_ne]; omega
  have hne : cb ≠ b := fun e => h.ne.1 e.symm
  have HW := Lib.hid hw
  have HW2 := Lib.hid hW
  have H := Lib.hid h
  have hcallo := fun w => cut_any W o w ho hW
  have HO := Lib.hid hcallo
  have hbe : ((c : Int) != (cutN W o : Nat)) = false := by rw [he]; simp
  have HE := Lib.hid he
  clear hcallo he
  have hcall := fun w => cut_any W v w hv hW
  have HC := Lib.hid hcall
  clear hw hc hW hcall
  go_enter Tryd.func43, Tryd.ntmps43
  go_wp2_with (first
    | (go_at_call 62; refine (width_at b cb wb cs ws th ct p W _ H.out HW.out).mono ?_; rintro e w' ⟨rfl, rfl⟩)
    | (go_at_call 63; refine (HO.out _).mono ?_; rintro e w' ⟨rfl, rfl⟩))
  obtain ⟨W1, hW1⟩ : ∃ W1, (w.setCell ⟨b, 3, none⟩ (.int .i64 ((ct : Int) + 1))).drew = W1 := ⟨_, rfl⟩
  have d0 : W1.cell? ⟨b, 0, none⟩ = some (.slice (some ⟨cb, 0, none⟩) cs.length cs.length) := by rw [← hW1]; exact (cell_set_ne _ (.inr (by omega))).trans c0
  have dc : W1.cell? ⟨cb, p, none⟩ = some (.int .u64 c) := by rw [← hW1]; exact (cell_set_ne _ (.inl (fun e => hne e.symm))).trans cc
  have df : W1.frozen? ⟨cb, p, none⟩ = false := by rw [← hW1]; exact (World.frozen?_setCell _ _ _ _).trans (fc p)
  have HWW := Lib.hid hW1
  refine stillTail 9 (by kernel_rfl) (by kernel_rfl) hW1 ?_
  clear hW1 c0 c3 cc fb fc
  simp only [List.take_succ_cons, List.take_zero, List.drop_succ_cons, List.drop_zero]
  repeat still_step
  still_call ((HC.out _).mono fun _ _ h => ⟨h.1, h.2.symm⟩)
  repeat still_step
  refine wpStill_nil ?_
  go_wp2
  go_ret2
  rw [← HWW.out]
  exact ⟨rfl, access_rep H.out (cutN_le W v hv) hct _ (by omega), access_fr _ _ _ _ _ _⟩

set_option maxRecDepth 100000 in
set_option maxHeartbeats 1000000 in
theorem access_cas_no (b cb wb : Nat) (cs ws : List Nat) (th ct p W c o v : Nat) (w : World) (h : MemRep w b cb wb cs ws th ct) (hw : ws[p]? = some W) (hW : W = 32 ∨ W = 64) (hc : cs[p]? = some c) (hct : ct + 1 < 1000000000) (hv : v < 18446744073709551616) (ho : o < 18446744073709551616) (he : c ≠ cutN W o) :
    Calls Tryd.prog 43 #[.pointer (some ⟨b, 0, none⟩), .int .i64 4, .int .u64 p, .int .u64 o, .int .u64 v] w fun e w' => e = .returned (.tuple #[.int .u64 c, .nilIface]) ∧
      MemRep w' b cb wb cs ws th (ct + 1) ∧ Fr (fun k => k = b ∨ k = cb) w w' := by
  have c0 := h.hd.cell 0 _ rfl
  have c3 := h.hd.cell 3 _ rfl
  have cc := at_map h.cells hc
  have fb := h.hd.free
  have fc := h.cells.free
  have hl := h.len.2
  have hlt : p < cs.length := (List.getElem?_eq_some_iff.1 hc).1
  have hb : ((W : Int) == 0) = false := by rw [beq_eq_false_iff_ne]; omega
  have hne : cb ≠ b := fun e => h.ne.1 e.symm
  have HW := Lib.hid hw
  have HW2 := Lib.hid hW
  have H := Lib.hid h
  have hcallo := fun w => cut_any W o w ho hW
  have HO := Lib.hid hcallo
  have hbe : ((c : Int) != (cutN W o : Nat)) = true := by rw [bne_iff_ne]; omega
  have HE := Lib.hid he
  clear hcallo he
  have hcall := fun w => cut_any W v w hv hW
  have HC := Lib.hid hcall
  clear hw hc hW hcall
  go_enter Tryd.func43, Tryd.ntmps43
  go_wp2_with (first
    | (go_at_call 62; refine (width_at b cb wb cs ws th ct p W _ H.out HW.out).mono ?_; rintro e w' ⟨rfl, rfl⟩)
    | (go_at_call 63; refine (HO.out _).mono ?_; rintro e w' ⟨rfl, rfl⟩))
  go_ret2
  exact ⟨rfl, count_rep H.out hct _ (by omega), count_fr _ _ _ _⟩

/-- What one access lays down. -/
def laidBy (kind W c o v : Nat) : Nat := if kind = 0 then c else if kind = 3 then sumN W c v else if kind = 4 then (if c = cutN W o then cutN W v else c) else cutN W v

theorem set_self {xs : List Nat} {p c : Nat} (h : xs[p]? = some c) : xs.set p c = xs := by
  apply List.ext_getElem?
  intro j
  by_cases e : p = j
  · subst e; rw [List.getElem?_set_self']; simp [h]
  · rw [List.getElem?_set_ne e]

theorem access_any (kind b cb wb : Nat) (cs ws : List Nat) (th ct p W c o v : Nat) (w : World) (hk : kind ≤ 4) (h : MemRep w b cb wb cs ws th ct) (hw : ws[p]? = some W) (hW : W = 32 ∨ W = 64) (hc : cs[p]? = some c) (hct : ct + 1 < 1000000000) (hv : v < 18446744073709551616) (ho : o < 18446744073709551616) :
    Calls Tryd.prog 43 #[.pointer (some ⟨b, 0, none⟩), .int .i64 kind, .int .u64 p, .int .u64 o, .int .u64 v] w fun e w' => e = .returned (.tuple #[.int .u64 c, .nilIface]) ∧
      MemRep w' b cb wb (cs.set p (laidBy kind W c o v)) ws th (ct + 1) ∧ Fr (fun k => k = b ∨ k = cb) w w' := by
  match kind, hk with
  | 0, _ => exact (access_load b cb wb cs ws th ct p W c o v w h hw (by omega) hc hct).mono fun e w' ⟨h1, h2, h3⟩ => ⟨h1, by rw [show laidBy 0 W c o v = c from rfl, set_self hc]; exact h2, h3⟩
  | 1, _ => exact access_store b cb wb cs ws th ct p W c o v w h hw hW hc hct hv
  | 2, _ => exact access_swap b cb wb cs ws th ct p W c o v w h hw hW hc hct hv
  | 3, _ => exact access_add b cb wb cs ws th ct p W c o v w h hw hW hc hct hv
  | 4, _ =>
    by_cases he : c = cutN W o
    · exact (access_cas_yes b cb wb cs ws th ct p W c o v w h hw hW hc hct hv ho he).mono fun e w' ⟨h1, h2, h3⟩ => ⟨h1, by rw [show laidBy 4 W c o v = cutN W v by unfold laidBy; rw [if_neg (by omega), if_neg (by omega), if_pos rfl, if_pos he]]; exact h2, h3⟩
    · exact (access_cas_no b cb wb cs ws th ct p W c o v w h hw hW hc hct hv ho he).mono fun e w' ⟨h1, h2, h3⟩ => ⟨h1, by rw [show laidBy 4 W c o v = c by unfold laidBy; rw [if_neg (by omega), if_neg (by omega), if_pos rfl, if_neg he], set_self hc]; exact h2, h3⟩
  | k + 5, hk => omega

set_option maxRecDepth 100000 in
set_option maxHeartbeats 400000 in
theorem load_any (b cb wb : Nat) (cs ws : List Nat) (th ct p W c : Nat) (w : World) (h : MemRep w b cb wb cs ws th ct) (hw : ws[p]? = some W) (hW : W = 32 ∨ W = 64) (hc : cs[p]? = some c) (hct : ct + 1 < 1000000000) :
    Calls Tryd.prog 25 #[.pointer (some ⟨b, 0, none⟩), .int .u64 p] w fun e w' => e = .returned (.tuple #[.int .u64 c, .nilIface]) ∧
      MemRep w' b cb wb (cs.set p (laidBy 0 W c 0 0)) ws th (ct + 1) ∧ Fr (fun k => k = b ∨ k = cb) w w' := by
  have HM := Lib.hid (access_any 0 b cb wb cs ws th ct p W c 0 0 w (by omega) h hw hW hc hct (by omega) (by omega))
  clear h hw hc hW
  go_enter Tryd.func25, Tryd.ntmps25
  go_wp2_with (go_at_call 43; refine HM.out.mono ?_; rintro e w' ⟨rfl, hr, hf⟩)
  go_ret2
  exact ⟨rfl, hr, hf⟩

set_option maxRecDepth 100000 in
set_option maxHeartbeats 400000 in
theorem store_any (b cb wb : Nat) (cs ws : List Nat) (th ct p W c v : Nat) (w : World) (h : MemRep w b cb wb cs ws th ct) (hw : ws[p]? = some W) (hW : W = 32 ∨ W = 64) (hc : cs[p]? = some c) (hct : ct + 1 < 1000000000) (hv : v < 18446744073709551616) :
    Calls Tryd.prog 23 #[.pointer (some ⟨b, 0, none⟩), .int .u64 p, .int .u64 v] w fun e w' => e = .returned .nilIface ∧
      MemRep w' b cb wb (cs.set p (laidBy 1 W c 0 v)) ws th (ct + 1) ∧ Fr (fun k => k = b ∨ k = cb) w w' := by
  have HM := Lib.hid (access_any 1 b cb wb cs ws th ct p W c 0 v w (by omega) h hw hW hc hct hv (by omega))
  clear h hw hc hW
  go_enter Tryd.func23, Tryd.ntmps23
  go_wp2_with (go_at_call 43; refine HM.out.mono ?_; rintro e w' ⟨rfl, hr, hf⟩)
  go_ret
  exact ⟨rfl, hr, hf⟩

set_option maxRecDepth 100000 in
set_option maxHeartbeats 400000 in
theorem swap_any (b cb wb : Nat) (cs ws : List Nat) (th ct p W c v : Nat) (w : World) (h : MemRep w b cb wb cs ws th ct) (hw : ws[p]? = some W) (hW : W = 32 ∨ W = 64) (hc : cs[p]? = some c) (hct : ct + 1 < 1000000000) (hv : v < 18446744073709551616) :
    Calls Tryd.prog 92 #[.pointer (some ⟨b, 0, none⟩), .int .u64 p, .int .u64 v] w fun e w' => e = .returned (.tuple #[.int .u64 c, .nilIface]) ∧
      MemRep w' b cb wb (cs.set p (laidBy 2 W c 0 v)) ws th (ct + 1) ∧ Fr (fun k => k = b ∨ k = cb) w w' := by
  have HM := Lib.hid (access_any 2 b cb wb cs ws th ct p W c 0 v w (by omega) h hw hW hc hct hv (by omega))
  clear h hw hc hW
  go_enter Tryd.func92, Tryd.ntmps92
  go_wp2_with (go_at_call 43; refine HM.out.mono ?_; rintro e w' ⟨rfl, hr, hf⟩)
  go_ret2
  exact ⟨rfl, hr, hf⟩

set_option maxRecDepth 100000 in
set_option maxHeartbeats 400000 in
theorem add_any (b cb wb : Nat) (cs ws : List Nat) (th ct p W c v : Nat) (w : World) (h : MemRep w b cb wb cs ws th ct) (hw : ws[p]? = some W) (hW : W = 32 ∨ W = 64) (hc : cs[p]? = some c) (hct : ct + 1 < 1000000000) (hv : v < 18446744073709551616) :
    Calls Tryd.prog 90 #[.pointer (some ⟨b, 0, none⟩), .int .u64 p, .int .u64 v] w fun e w' => e = .returned (.tuple #[.int .u64 c, .nilIface]) ∧
      MemRep w' b cb wb (cs.set p (laidBy 3 W c 0 v)) ws th (ct + 1) ∧ Fr (fun k => k = b ∨ k = cb) w w' := by
  have HM := Lib.hid (access_any 3 b cb wb cs ws th ct p W c 0 v w (by omega) h hw hW hc hct hv (by omega))
  clear h hw hc hW
  go_enter Tryd.func90, Tryd.ntmps90
  go_wp2_with (go_at_call 43; refine HM.out.mono ?_; rintro e w' ⟨rfl, hr, hf⟩)
  go_ret2
  exact ⟨rfl, hr, hf⟩

set_option maxRecDepth 100000 in
set_option maxHeartbeats 400000 in
theorem cas_any (b cb wb : Nat) (cs ws : List Nat) (th ct p W c o v : Nat) (w : World) (h : MemRep w b cb wb cs ws th ct) (hw : ws[p]? = some W) (hW : W = 32 ∨ W = 64) (hc : cs[p]? = some c) (hct : ct + 1 < 1000000000) (hv : v < 18446744073709551616) (ho : o < 18446744073709551616) :
    Calls Tryd.prog 91 #[.pointer (some ⟨b, 0, none⟩), .int .u64 p, .int .u64 o, .int .u64 v] w fun e w' => e = .returned (.tuple #[.int .u64 c, .nilIface]) ∧
      MemRep w' b cb wb (cs.set p (laidBy 4 W c o v)) ws th (ct + 1) ∧ Fr (fun k => k = b ∨ k = cb) w w' := by
  have HM := Lib.hid (access_any 4 b cb wb cs ws th ct p W c o v w (by omega) h hw hW hc hct hv ho)
  clear h hw hc hW
  go_enter Tryd.func91, Tryd.ntmps91
  go_wp2_with (go_at_call 43; refine HM.out.mono ?_; rintro e w' ⟨rfl, hr, hf⟩)
  go_ret2
  exact ⟨rfl, hr, hf⟩

end Go.Proofs.YtngpcalgjaglmaaDoor
