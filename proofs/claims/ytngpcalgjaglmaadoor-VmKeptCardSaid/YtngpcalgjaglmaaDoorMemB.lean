/- One access of a cell that is there: of each kind. -/
import Derived.Test.YtngpcalgjaglmaaDoorMemA
import Derived.Test.YtngpcalgjaglmaaDoorStill
namespace Go.Proofs.YtngpcalgjaglmaaDoor
open Go.RowKit

theorem map_set (k : IntKind) (xs : List Nat) (i x : Nat) : (xs.map fun x : Nat => Value.int k x).set i (.int k x) = (xs.set i x).map fun x : Nat => Value.int k x := by
  rw [List.map_set]

/-- Behind an access: the count, and the cell. -/
theorem access_rep {w : World} {b cb wb : Nat} {cs ws : List Nat} {th ct p v : Nat} (h : MemRep w b cb wb cs ws th ct) (hv : v < 18446744073709551616) (hc : ct + 1 < 1000000000) (x : Int) (hx : x = ((ct + 1 : Nat) : Int)) :
    MemRep (((w.setCell ⟨b, 3, none⟩ (.int .i64 x)).drew).setCell ⟨cb, p, none⟩ (.int .u64 v)) b cb wb (cs.set p v) ws th (ct + 1) := by
  subst hx
  obtain ⟨h1, h2, h3⟩ := h.ne
  refine ⟨h.ne, ?_, ?_, ?_, by rw [List.length_set]; exact h.len, ?_, h.wide, ⟨h.few.1, hc⟩⟩
  · rw [List.length_set]
    exact ((h.hd.set 3 _).drew).setNe (fun e => h1 e.symm) _
  · rw [← map_set]
    exact ((h.cells.setNe h1 _).drew).set p _
  · exact ((h.widths.setNe h2 _).drew).setNe h3 _
  · intro y hy
    rcases List.mem_or_eq_of_mem_set hy with hh | rfl
    · exact h.fits y hh
    · exact hv
theorem count_rep {w : World} {b cb wb : Nat} {cs ws : List Nat} {th ct : Nat} (h : MemRep w b cb wb cs ws th ct) (hc : ct + 1 < 1000000000) (x : Int) (hx : x = ((ct + 1 : Nat) : Int)) :
    MemRep (w.setCell ⟨b, 3, none⟩ (.int .i64 x)) b cb wb cs ws th (ct + 1) := by
  subst hx
  obtain ⟨h1, h2, h3⟩ := h.ne
  exact ⟨h.ne, h.hd.set 3 _, h.cells.setNe h1 _, h.widths.setNe h2 _, h.len, h.fits, h.wide, ⟨h.few.1, hc⟩⟩
theorem count_fr (w : World) (b cb : Nat) (x : Value) : Fr (fun k => k = b ∨ k = cb) w (w.setCell ⟨b, 3, none⟩ x) :=
  Fr.setCell (S := fun k => k = b ∨ k = cb) (Fr.refl _ _) (fun _ => .inl rfl) _
theorem access_fr (w : World) (b cb p : Nat) (x y : Value) : Fr (fun k => k = b ∨ k = cb) w (((w.setCell ⟨b, 3, none⟩ x).drew).setCell ⟨cb, p, none⟩ y) :=
  Fr.setCell (S := fun k => k = b ∨ k = cb) (count_fr w b cb x).drew (fun _ => .inr rfl) _

set_option maxRecDepth 100000 in
set_option maxHeartbeats 1000000 in
theorem access_load (b cb wb : Nat) (cs ws : List Nat) (th ct p W c o v : Nat) (w : World) (h : MemRep w b cb wb cs ws th ct) (hw : ws[p]? = some W) (hW : W ≠ 0) (hc : cs[p]? = some c) (hct : ct + 1 < 1000000000) :
    Calls Tryd.prog 43 #[.pointer (some ⟨b, 0, none⟩), .int .i64 0, .int .u64 p, .int .u64 o, .int .u64 v] w fun e w' => e = .returned (.tuple #[.int .u64 c, .nilIface]) ∧
      MemRep w' b cb wb cs ws th (ct + 1) ∧ Fr (fun k => k = b ∨ k = cb) w w' := by
  have c0 := h.hd.cell 0 _ rfl
  have c3 := h.hd.cell 3 _ rfl
  have cc := at_map h.cells hc
  have fb := h.hd.free
  have hl := h.len.2
  have hlt : p < cs.length := (List.getElem?_eq_some_iff.1 hc).1
  have hb : ((W : Int) == 0) = false := by rw [beq_eq_false_iff_ne]; omega
  have hne : cb ≠ b := fun e => h.ne.1 e.symm
  have HW := Lib.hid hw
  have H := Lib.hid h
  clear hw hc
  go_enter Tryd.func43, Tryd.ntmps43
  go_wp2_with (go_at_call 62; refine (width_at b cb wb cs ws th ct p W _ H.out HW.out).mono ?_; rintro e w' ⟨rfl, rfl⟩)
  go_ret2
  exact ⟨rfl, count_rep H.out hct _ (by omega), count_fr _ _ _ _⟩

set_option maxRecDepth 100000 in
set_option maxHeartbeats 1000000 in
theorem access_store (b cb wb : Nat) (cs ws : List Nat) (th ct p W c o v : Nat) (w : World) (h : MemRep w b cb wb cs ws th ct) (hw : ws[p]? = some W) (hW : W = 32 ∨ W = 64) (hc : cs[p]? = some c) (hct : ct + 1 < 1000000000) (hv : v < 18446744073709551616) :
    Calls Tryd.prog 43 #[.pointer (some ⟨b, 0, none⟩), .int .i64 1, .int .u64 p, .int .u64 o, .int .u64 v] w fun e w' => e = .returned (.tuple #[.int .u64 c, .nilIface]) ∧
      MemRep w' b cb wb (cs.set p (cutN W v)) ws th (ct + 1) ∧ Fr (fun k => k = b ∨ k = cb) w w' := by
  have c0 := h.hd.cell 0 _ rfl
  have c3 := h.hd.cell 3 _ rfl
  have cc := at_map h.cells hc
  have fb := h.hd.free
  have fc := h.cells.free
  have hl := h.len.2
  have hlt : p < cs.length := (List.getElem?_eq_some_iff.1 hc).1
  have hb : ((W : Int) == 0) = false := by rw [beq_eq_false_iff_ne]; omega
  have hne : cb ≠ b := fun e => h.ne.1 e.symm
  have HW := Lib.hid hw
  have HW2 := Lib.hid hW
  have H := Lib.hid h
  have hcall := fun w => cut_any W v w hv hW
  have HC := Lib.hid hcall
  clear hw hc hW hcall
  go_enter Tryd.func43, Tryd.ntmps43
  go_wp2_with (go_at_call 62; refine (width_at b cb wb cs ws th ct p W _ H.out HW.out).mono ?_; rintro e w' ⟨rfl, rfl⟩)
  obtain ⟨W1, hW1⟩ : ∃ W1, (w.setCell ⟨b, 3, none⟩ (.int .i64 ((ct : Int) + 1))).drew = W1 := ⟨_, rfl⟩
  have d0 : W1.cell? ⟨b, 0, none⟩ = some (.slice (some ⟨cb, 0, none⟩) cs.length cs.length) := by rw [← hW1]; exact (cell_set_ne _ (.inr (by omega))).trans c0
  have dc : W1.cell? ⟨cb, p, none⟩ = some (.int .u64 c) := by rw [← hW1]; exact (cell_set_ne _ (.inl (fun e => hne e.symm))).trans cc
  have df : W1.frozen? ⟨cb, p, none⟩ = false := by rw [← hW1]; exact (World.frozen?_setCell _ _ _ _).trans (fc p)
  have HWW := Lib.hid hW1
  refine stillTail 9 (by kernel_rfl) (by kernel_rfl) hW1 ?_
  clear hW1 c0 c3 cc fb fc
  simp only [List.take_succ_cons, List.take_zero, List.drop_succ_cons, List.drop_zero]
  repeat still_step
  still_call ((HC.out _).mono fun _ _ h => ⟨h.1, h.2.symm⟩)
  repeat still_step
  refine wpStill_nil ?_
  go_wp2
  go_ret2
  rw [← HWW.out]
  exact ⟨rfl, access_rep H.out (cutN_le W v hv) hct _ (by omega), access_fr _ _ _ _ _ _⟩

end Go.Proofs.YtngpcalgjaglmaaDoor
