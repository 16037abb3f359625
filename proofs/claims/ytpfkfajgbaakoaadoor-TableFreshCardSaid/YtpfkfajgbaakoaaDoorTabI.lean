/- What is said of an error survives a call upon the table. -/
import Derived.Test.YtpfkfajgbaakoaaDoorTabH
import Derived.Test.YtpfkfajgbaakoaaDoorDoorP
namespace Go.Proofs.YtpfkfajgbaakoaaDoor
open Go.RowKit

section
variable {w0 w w' : World} {b rb : Nat} {l : List TR}
theorem Tb.head0 (t : Tb w0 w b rb l) (hl : l ≠ []) : ∃ n : Nat, w.cell? ⟨rb, 0, none⟩ = some (.int .u64 n) := by
  match l, hl with
  | r :: l, _ =>
    refine ⟨r.times, ?_⟩
    have := t.p.rows.row pC_len (p := 0) (a := r) rfl 0 _ rfl
    rwa [Nat.zero_mul] at this
theorem Tb.frE {E : TR → Option (Int × Int)} {R : TR → TR} {v : Value} {h : Nat} (e : EndP w b rb l h E R v w') : Fr (· = rb) w w' := e.2.2.mono (fun _ _ h => h.2)
theorem Tb.keepS {L : ByteArray} {v : Value} {o : Option (Int × Int)} (t : Tb w0 w b rb l) (hl : l ≠ []) (f : Fr (· = rb) w w') (h : Says w L v o) : Says w' L v o := by
  cases o with
  | none => exact h
  | some x =>
    obtain ⟨n, k⟩ := x
    obtain ⟨m, hm⟩ := t.head0 hl
    obtain ⟨⟨g, inner, hv, hb, hr⟩, h2⟩ := h
    refine ⟨⟨g, inner, hv, ?_, hr⟩, h2⟩
    have hne : g ≠ rb := by
      rintro rfl
      have := cell_of_block hb 0
      rw [hm] at this
      simp at this
    rw [f.block g (lt_of_block hb) hne]; exact hb
theorem Tb.keepF {L : ByteArray} {v : Value} {o : Option (Int × Int)} (t : Tb w0 w b rb l) (hl : l ≠ []) (f : Fr (· = rb) w w') (h : SaysF w L v o) : SaysF w' L v o := by
  cases o with
  | none => exact h
  | some x =>
    obtain ⟨n, k⟩ := x
    obtain ⟨m, hm⟩ := t.head0 hl
    obtain ⟨g, lb, pb, lc, pc, hv, h1, h2, h3⟩ := h
    have n1 : g ≠ rb := by
      rintro rfl
      have := cell_of_block h1 0
      rw [hm] at this
      simp at this
    have n2 : lb ≠ rb := by
      rintro rfl
      have := cell_of_block h2 0
      rw [hm] at this
      simp at this
    have n3 : pb ≠ rb := by
      rintro rfl
      have := cell_of_block h3 0
      rw [hm] at this
      simp at this
    exact ⟨g, lb, pb, lc, pc, hv, by rw [f.block g (lt_of_block h1) n1]; exact h1, by rw [f.block lb (lt_of_block h2) n2]; exact h2, by rw [f.block pb (lt_of_block h3) n3]; exact h3⟩
end

end Go.Proofs.YtpfkfajgbaakoaaDoor
