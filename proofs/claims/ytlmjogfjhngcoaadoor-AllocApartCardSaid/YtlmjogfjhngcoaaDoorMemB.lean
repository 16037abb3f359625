/- One access of a cell that is there: of each kind. -/
import Derived.Test.YtlmjogfjhngcoaaDoorMemA
import Derived.Test.YtlmjogfjhngcoaaDoorStill
namespace Go.Proofs.YtlmjogfjhngcoaaDoor
open Go.RowKit

theorem map_set (k : IntKind) (xs : List Nat) (i x : Nat) : (xs.map fun x : Nat => Value.int k x).set i (.int k x) = (xs.set i x).map fun x : Nat => Value.int k x := by
  rw [List.map_set]

/-- Behind an access: the count, and the cell. -/
theorem access_rep {w : World} {b cb wb : Nat} {cs ws : List Nat} {th ct p v : Nat} (h : MemRep w b cb wb cs ws th ct) (hv : v < 18446744073709551616) (hc : ct + 1 < 1000000000) (x : Int) (hx : x = ((ct + 1 : Nat) : Int)) :
    MemRep (((w.setCell ⟨b, 3, none⟩ (.int .i64 x)).drew).setCell ⟨cb, p, none⟩ (.int .u64 v)) b cb wb (cs.set p v) ws th (ct + 1) := by
  subst hx
  obtain ⟨h1, h2, h3⟩ := h.ne
  refine ⟨h.ne, ?_, ?_, ?_, by rw [List.length_set]; exact h.len, ?_, h.wide, ⟨h.few.1, hc⟩⟩
  · rw [List.length_set]
    exact ((h.hd.set 3 _).drew).setNe (fun e => h1 e.symm) _
  · rw [← map_set]
    exact ((h.cells.setNe h1 _).drew).set p _
  · exact ((h.widths.setNe h2 _).drew).setNe h3 _
  · intro y hy
    rcases List.mem_or_eq_of_mem_set hy with hh | rfl
    · exact h.fits y hh
    · exact hv
theorem count_rep {w : World} {b cb wb : Nat} {cs ws : List Nat} {th ct : Nat} (h : MemRep w b cb wb cs ws th ct) (hc : ct + 1 < 1000000000) (x : Int) (hx : x = ((ct + 1 : Nat) : Int)) :
    MemRep (w.setCell ⟨b, 3, none⟩ (.int .i64 x)) b cb wb cs ws th (ct + 1) := by
  subst hx
  obtain ⟨h1, h2, h3⟩ := h.ne
  exact ⟨h.ne, h.hd.set 3 _, h.cells.setNe h1 _, h.widths.setNe h2 _, h.len, h.fits, h.wide, ⟨h.few.1, hc⟩⟩
theorem count_fr (w : World) (b cb : Nat) (x : Value) : Fr (fun k => k = b ∨ k = cb) w (w.setCell ⟨b, 3, none⟩ x) :=
  Fr.setCell (S := fun k => k = b ∨ k = cb) (Fr.refl _ _) (fun _ => .inl rfl) _
theorem access_fr (w : World) (b cb p : Nat) (x y : Value) : Fr (fun k => k = b ∨ k = cb) w (((w.setCell ⟨b, 3, none⟩ x).drew).setCell ⟨cb, p, none⟩ y) :=
  Fr.setCell (S := fun k => k = b ∨ k = cb) (count_fr w b cb x).drew (fun _ => .inr rfl) _

end Go.Proofs.YtlmjogfjhngcoaaDoor
