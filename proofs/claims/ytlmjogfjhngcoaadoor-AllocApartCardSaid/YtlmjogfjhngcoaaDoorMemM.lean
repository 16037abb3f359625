/- The document's memory: its accesses; how it is made. -/
import Derived.Test.YtlmjogfjhngcoaaDoorMemL
import Derived.Test.YtlmjogfjhngcoaaDoorStill
namespace Go.Proofs.YtlmjogfjhngcoaaDoor
open Go.RowKit
set_option linter.unusedSimpArgs false

theorem rcount_rep {w : World} {b wb hb : Nat} {cs ws : List Nat} {N : Nat} (h : RefRep w b wb hb cs ws N) (hc : N + 1 < 1000000000) (x : Int) (hx : x = ((N + 1 : Nat) : Int)) :
    RefRep (w.setCell ⟨b, 2, none⟩ (.int .i64 x)) b wb hb cs ws (N + 1) := by
  subst hx
  obtain ⟨h1, h2, h3⟩ := h.ne
  exact ⟨h.ne, h.hd.set 2 _, h.widths.setNe h1 _, h.holds.setNe h2 _, h.len, hc, h.fits, h.wide⟩
theorem raccess_rep {w : World} {b wb hb : Nat} {cs ws : List Nat} {N p v : Nat} (h : RefRep w b wb hb cs ws N) (hv : v < 18446744073709551616) (hc : N + 1 < 1000000000) (x : Int) (hx : x = ((N + 1 : Nat) : Int)) :
    RefRep (((w.setCell ⟨b, 2, none⟩ (.int .i64 x)).drew).setCell ⟨hb, p, none⟩ (.int .u64 v)) b wb hb (cs.set p v) ws (N + 1) := by
  have h1 := rcount_rep h hc x hx
  obtain ⟨n1, n2, n3⟩ := h.ne
  refine ⟨h.ne, (h1.hd.drew).setNe (fun e => n2 e.symm) _, (h1.widths.drew).setNe (fun e => n3 e.symm) _, ?_, by rw [List.length_set]; exact h.len, hc, ?_, h.wide⟩
  · rw [← map_set]
    exact (h1.holds.drew).set p _
  · intro y hy
    rcases List.mem_or_eq_of_mem_set hy with hh | rfl
    · exact h.fits y hh
    · exact hv
theorem rcount_fr (w : World) (b hb : Nat) (x : Value) : Fr (fun k => k = b ∨ k = hb) w (w.setCell ⟨b, 2, none⟩ x) :=
  Fr.setCell (S := fun k => k = b ∨ k = hb) (Fr.refl _ _) (fun _ => .inl rfl) _
theorem raccess_fr (w : World) (b hb p : Nat) (x y : Value) : Fr (fun k => k = b ∨ k = hb) w (((w.setCell ⟨b, 2, none⟩ x).drew).setCell ⟨hb, p, none⟩ y) :=
  Fr.setCell (S := fun k => k = b ∨ k = hb) (rcount_fr w b hb x).drew (fun _ => .inr rfl) _

theorem intInfo : (Tryd.prog.info? 3).map (fun i => (i.zero, i.size, i.bytes)) = some (some (.int .i64 0), 1, 8) := by kernel_rfl
theorem rnew_rep {w2 : World} {b cb wb n : Nat} {w3 : World} (hc : Arr w2 cb ((List.replicate n 0).map fun x : Nat => Value.int .i64 x)) (hw : Arr w2 wb ((List.replicate n 0).map fun x : Nat => Value.int .u64 x)) (hne : cb ≠ wb) (hn : n ≤ 65536)
    (h3 : w3 = w2.alloc (.cells #[.slice (some ⟨cb, 0, none⟩) n n, .slice (some ⟨wb, 0, none⟩) n n, .int .i64 0] 94)) (hb : b = w2.heap.size) :
    RefRep w3 b cb wb (List.replicate n 0) (List.replicate n 0) 0 := by
  subst h3; subst hb
  have := hc.lt
  have := hw.lt
  refine ⟨by omega, ?_, hc.alloc _, hw.alloc _, by simp; omega, by omega, ?_, ?_⟩
  · rw [List.length_replicate]; exact Arr.new _ _ _
  · intro x hx; rw [(List.mem_replicate.1 hx).2]; omega
  · intro x hx; exact .inl (List.mem_replicate.1 hx).2

set_option maxRecDepth 100000 in
set_option maxHeartbeats 1000000 in
theorem rnew_any (n : Nat) (w : World) (h1 : 1 ≤ n) (h2 : n ≤ 65536) :
    Calls Tryd.prog 24 #[.int .i64 n] w fun e w' => ∃ b cb wb, e = .returned (.tuple #[.pointer (some ⟨b, 0, none⟩), .pointer none]) ∧ w.heap.size ≤ b ∧ w.heap.size ≤ cb ∧ w.heap.size ≤ wb ∧
      RefRep w' b cb wb (List.replicate n 0) (List.replicate n 0) 0 ∧ New w w' := by
  obtain ⟨i0, hi, hz0, hz1, hz2⟩ := info_parts intInfo
  obtain ⟨i1, hj, hy0, hy1, hy2⟩ := info_parts u64Info
  go_enter Tryd.func24, Tryd.ntmps24
  go_wp2_with fail
  refine regStart (by kernel_rfl) ?_
  refine wpAnyH_take (i := 0) (v := ?_) rfl (by kernel_rfl) (by kernel_rfl) (by kernel_rfl) (fun _ _ _ h => h) (Or.inl ⟨by rfl, ?_⟩) trivial ?_
  rotate_left
  · intro w _; go_simp; rfl
  refine wpAnyH_take (i := 2) (v := ?_) rfl (by kernel_rfl) (by kernel_rfl) (by kernel_rfl) (fun _ _ _ h => h) (Or.inl ⟨by rfl, ?_⟩) trivial ?_
  rotate_left
  · intro w _; go_simp; rfl
  refine regEither (i := 1) (j := 3) (by kernel_rfl) rfl rfl (by rfl) (by rfl) (fun K hK => ?_) (fun K hK => ?_)
  · refine opMakeFull _ (.tmp 11) (.tmp 11) 22 rfl w.heap.size 3 i0 _ 1 Tryd.underlying22 hi hz0 hz1 .i64 .i64 n n n rfl rfl rfl rfl (by rw [hz2]; omega) (by unfold maxLen; omega) (by simp) ?_
    intro w1 hown hg
    refine hK.out _ _ ?_
    clear hK K
    simp only [Act.put, List.setIfInBounds_toArray]
    refine regOne (i := 3) (by kernel_rfl) rfl (by rfl) (fun K hK => ?_)
    refine opMakeFull _ (.tmp 13) (.tmp 13) 89 rfl w1.heap.size 51 i1 _ 1 Tryd.underlying89 hj hy0 hy1 .i64 .i64 n n n rfl rfl rfl rfl (by rw [hy2]; omega) (by unfold maxLen; omega) (Nat.le_refl _) ?_
    intro w2 hown2 hg2
    refine hK.out _ _ ?_
    clear hK K
    simp only [Act.put]
    have hlt1 : w.drew.heap.size < w1.heap.size := (hown.lt _ rfl).2
    have hR := rnew_rep (w2 := w2) (b := w2.heap.size) ((arr_zero hown).keep ((Fr.refl (fun _ => False) w1).grown hg2 (fun _ h => by cases h)) id) (arr_zero hown2) (by omega) h2 rfl rfl
    have hF := (((Fr.refl (fun _ => False) w).drew.grown hg (fun _ h => by cases h)).grown hg2 (fun _ h => by cases h)).alloc (.cells #[.slice (some ⟨w.drew.heap.size, 0, none⟩) n n, .slice (some ⟨w1.heap.size, 0, none⟩) n n, .int .i64 0] 94)
    have hs2 := hg2.size
    have hs1 : w.drew.heap.size = w.heap.size := rfl
    have HR := Lib.hid hR
    have HF := Lib.hid hF
    clear hR hF hown hown2 hg hg2
    refine regOne (i := 4) (by kernel_rfl) rfl (by rfl) (fun K hK => ?_)
    go_simp
    refine hK.out _ _ ?_
    clear hK K
    refine regOne (i := 5) (by kernel_rfl) rfl (by rfl) (fun K hK => ?_)
    go_simp
    refine hK.out _ _ ?_
    clear hK K
    refine regOne (i := 6) (by kernel_rfl) rfl (by rfl) (fun K hK => ?_)
    go_simp
    refine hK.out _ _ ?_
    clear hK K
    refine regOne (i := 7) (by kernel_rfl) rfl (by rfl) (fun K hK => ?_)
    go_simp
    refine hK.out _ _ ?_
    clear hK K
    refine wpAnyH_done (by kernel_rfl) ?_ _
    go_wp2
    go_ret2
    exact ⟨w2.heap.size, _, _, rfl, by omega, by omega, by omega, HR.out, HF.out⟩
  · refine opMakeFull _ (.tmp 13) (.tmp 13) 89 rfl w.heap.size 51 i1 _ 1 Tryd.underlying89 hj hy0 hy1 .i64 .i64 n n n rfl rfl rfl rfl (by rw [hy2]; omega) (by unfold maxLen; omega) (by simp) ?_
    intro w1 hown hg
    refine hK.out _ _ ?_
    clear hK K
    simp only [Act.put, List.setIfInBounds_toArray]
    refine regOne (i := 1) (by kernel_rfl) rfl (by rfl) (fun K hK => ?_)
    refine opMakeFull _ (.tmp 11) (.tmp 11) 22 rfl w1.heap.size 3 i0 _ 1 Tryd.underlying22 hi hz0 hz1 .i64 .i64 n n n rfl rfl rfl rfl (by rw [hz2]; omega) (by unfold maxLen; omega) (Nat.le_refl _) ?_
    intro w2 hown2 hg2
    refine hK.out _ _ ?_
    clear hK K
    simp only [Act.put]
    have hlt1 : w.drew.heap.size < w1.heap.size := (hown.lt _ rfl).2
    have hR := rnew_rep (w2 := w2) (b := w2.heap.size) (arr_zero hown2) ((arr_zero hown).keep ((Fr.refl (fun _ => False) w1).grown hg2 (fun _ h => by cases h)) id) (by omega) h2 rfl rfl
    have hF := (((Fr.refl (fun _ => False) w).drew.grown hg (fun _ h => by cases h)).grown hg2 (fun _ h => by cases h)).alloc (.cells #[.slice (some ⟨w1.heap.size, 0, none⟩) n n, .slice (some ⟨w.drew.heap.size, 0, none⟩) n n, .int .i64 0] 94)
    have hs2 := hg2.size
    have hs1 : w.drew.heap.size = w.heap.size := rfl
    have HR := Lib.hid hR
    have HF := Lib.hid hF
    clear hR hF hown hown2 hg hg2
    refine regOne (i := 4) (by kernel_rfl) rfl (by rfl) (fun K hK => ?_)
    go_simp
    refine hK.out _ _ ?_
    clear hK K
    refine regOne (i := 5) (by kernel_rfl) rfl (by rfl) (fun K hK => ?_)
    go_simp
    refine hK.out _ _ ?_
    clear hK K
    refine regOne (i := 6) (by kernel_rfl) rfl (by rfl) (fun K hK => ?_)
    go_simp
    refine hK.out _ _ ?_
    clear hK K
    refine regOne (i := 7) (by kernel_rfl) rfl (by rfl) (fun K hK => ?_)
    go_simp
    refine hK.out _ _ ?_
    clear hK K
    refine wpAnyH_done (by kernel_rfl) ?_ _
    go_wp2
    go_ret2
    exact ⟨w2.heap.size, _, _, rfl, by omega, by omega, by omega, HR.out, HF.out⟩

end Go.Proofs.YtlmjogfjhngcoaaDoor
