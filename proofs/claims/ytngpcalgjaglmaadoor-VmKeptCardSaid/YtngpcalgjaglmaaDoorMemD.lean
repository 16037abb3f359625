/- A memory is made. -/
import Derived.Test.YtngpcalgjaglmaaDoorMemC
import Derived.Test.YtngpcalgjaglmaaDoorReg
namespace Go.Proofs.YtngpcalgjaglmaaDoor
open Go.RowKit
set_option linter.unusedSimpArgs false

theorem u64Info : (Tryd.prog.info? 47).map (fun i => (i.zero, i.size, i.bytes)) = some (some (.int .u64 0), 1, 8) := by kernel_rfl
theorem u8Info : (Tryd.prog.info? 5).map (fun i => (i.zero, i.size, i.bytes)) = some (some (.int .u8 0), 1, 1) := by kernel_rfl

theorem arr_zero {w : World} {base : Nat} {e : TypeId} {g n : Nat} {k : IntKind} (h : w.ownsRow base e 1 (.slice (some ⟨g, 0, none⟩) n n) n (madeCells (Value.int k 0).cells (n * 1)).toList) :
    Arr w g ((List.replicate n 0).map fun x : Nat => Value.int k x) := by
  have := Arr.of_owns h
  rw [show (Value.int k 0).cells = #[Value.int k 0] from rfl, toList_madeCells_one, Nat.mul_one] at this
  rw [List.map_replicate]; exact this

theorem new_rep {w2 : World} {b cb wb n : Nat} {w3 : World} (hc : Arr w2 cb ((List.replicate n 0).map fun x : Nat => Value.int .u64 x)) (hw : Arr w2 wb ((List.replicate n 0).map fun x : Nat => Value.int .u8 x)) (hne : cb ≠ wb) (hn : n ≤ 65536)
    (h3 : w3 = w2.alloc (.cells #[.slice (some ⟨cb, 0, none⟩) n n, .slice (some ⟨wb, 0, none⟩) n n, .int .i64 0, .int .i64 0] 97)) (hb : b = w2.heap.size) :
    MemRep w3 b cb wb (List.replicate n 0) (List.replicate n 0) 0 0 := by
  subst h3; subst hb
  have := hc.lt
  have := hw.lt
  refine ⟨by omega, ?_, hc.alloc _, hw.alloc _, by simp; omega, ?_, ?_, by omega⟩
  · rw [List.length_replicate]; exact Arr.new _ _ _
  · intro x hx; rw [(List.mem_replicate.1 hx).2]; omega
  · intro x hx; exact .inl (List.mem_replicate.1 hx).2

set_option maxRecDepth 100000 in
set_option maxHeartbeats 1000000 in
theorem new_any (n : Nat) (w : World) (h1 : 1 ≤ n) (h2 : n ≤ 65536) :
    Calls Tryd.prog 19 #[.int .i64 n] w fun e w' => ∃ b cb wb, e = .returned (.tuple #[.pointer (some ⟨b, 0, none⟩), .nilIface]) ∧ w.heap.size ≤ b ∧ w.heap.size ≤ cb ∧ w.heap.size ≤ wb ∧
      MemRep w' b cb wb (List.replicate n 0) (List.replicate n 0) 0 0 ∧ New w w' := by
  obtain ⟨i0, hi, hz0, hz1, hz2⟩ := info_parts u64Info
  obtain ⟨i1, hj, hy0, hy1, hy2⟩ := info_parts u8Info
  go_enter Tryd.func19, Tryd.ntmps19
  go_wp2_with fail
  refine regStart (by kernel_rfl) ?_
  refine wpAnyH_take (i := 0) (v := ?_) rfl (by kernel_rfl) (by kernel_rfl) (by kernel_rfl) (fun _ _ _ h => h) (Or.inl ⟨by rfl, ?_⟩) trivial ?_
  rotate_left
  · intro w _; go_simp; rfl
  refine wpAnyH_take (i := 2) (v := ?_) rfl (by kernel_rfl) (by kernel_rfl) (by kernel_rfl) (fun _ _ _ h => h) (Or.inl ⟨by rfl, ?_⟩) trivial ?_
  rotate_left
  · intro w _; go_simp; rfl
  refine regEither (i := 1) (j := 3) (by kernel_rfl) rfl rfl (by rfl) (by rfl) (fun K hK => ?_) (fun K hK => ?_)
  · refine opMakeFull _ (.tmp 12) (.tmp 12) 23 rfl w.heap.size 47 i0 _ 1 Tryd.underlying23 hi hz0 hz1 .i64 .i64 n n n rfl rfl rfl rfl (by rw [hz2]; omega) (by unfold maxLen; omega) (by simp) ?_
    intro w1 hown hg
    refine hK.out _ _ ?_
    clear hK K
    simp only [Act.put, List.setIfInBounds_toArray]
    refine regOne (i := 3) (by kernel_rfl) rfl (by rfl) (fun K hK => ?_)
    refine opMakeFull _ (.tmp 14) (.tmp 14) 95 rfl w1.heap.size 5 i1 _ 1 Tryd.underlying95 hj hy0 hy1 .i64 .i64 n n n rfl rfl rfl rfl (by rw [hy2]; omega) (by unfold maxLen; omega) (Nat.le_refl _) ?_
    intro w2 hown2 hg2
    refine hK.out _ _ ?_
    clear hK K
    simp only [Act.put]
    have hlt1 : w.drew.heap.size < w1.heap.size := (hown.lt _ rfl).2
    have hR := new_rep (w2 := w2) (b := w2.heap.size) ((arr_zero hown).keep ((Fr.refl (fun _ => False) w1).grown hg2 (fun _ h => by cases h)) id) (arr_zero hown2) (by omega) h2 rfl rfl
    have hF := (((Fr.refl (fun _ => False) w).drew.grown hg (fun _ h => by cases h)).grown hg2 (fun _ h => by cases h)).alloc (.cells #[.slice (some ⟨w.drew.heap.size, 0, none⟩) n n, .slice (some ⟨w1.heap.size, 0, none⟩) n n, .int .i64 0, .int .i64 0] 97)
    have hs2 := hg2.size
    have hs1 : w.drew.heap.size = w.heap.size := rfl
    have HR := Lib.hid hR
    have HF := Lib.hid hF
    clear hR hF hown hown2 hg hg2
    refine regOne (i := 4) (by kernel_rfl) rfl (by rfl) (fun K hK => ?_)
    go_simp
    refine hK.out _ _ ?_
    clear hK K
    refine regOne (i := 5) (by kernel_rfl) rfl (by rfl) (fun K hK => ?_)
    go_simp
    refine hK.out _ _ ?_
    clear hK K
    refine regOne (i := 6) (by kernel_rfl) rfl (by rfl) (fun K hK => ?_)
    go_simp
    refine hK.out _ _ ?_
    clear hK K
    refine regOne (i := 7) (by kernel_rfl) rfl (by rfl) (fun K hK => ?_)
    go_simp
    refine hK.out _ _ ?_
    clear hK K
    refine wpAnyH_done (by kernel_rfl) ?_ _
    go_wp2
    go_ret2
    exact ⟨w2.heap.size, _, _, rfl, by omega, by omega, by omega, HR.out, HF.out⟩
  · refine opMakeFull _ (.tmp 14) (.tmp 14) 95 rfl w.heap.size 5 i1 _ 1 Tryd.underlying95 hj hy0 hy1 .i64 .i64 n n n rfl rfl rfl rfl (by rw [hy2]; omega) (by unfold maxLen; omega) (by simp) ?_
    intro w1 hown hg
    refine hK.out _ _ ?_
    clear hK K
    simp only [Act.put, List.setIfInBounds_toArray]
    refine regOne (i := 1) (by kernel_rfl) rfl (by rfl) (fun K hK => ?_)
    refine opMakeFull _ (.tmp 12) (.tmp 12) 23 rfl w1.heap.size 47 i0 _ 1 Tryd.underlying23 hi hz0 hz1 .i64 .i64 n n n rfl rfl rfl rfl (by rw [hz2]; omega) (by unfold maxLen; omega) (Nat.le_refl _) ?_
    intro w2 hown2 hg2
    refine hK.out _ _ ?_
    clear hK K
    simp only [Act.put]
    have hlt1 : w.drew.heap.size < w1.heap.size := (hown.lt _ rfl).2
    have hR := new_rep (w2 := w2) (b := w2.heap.size) (arr_zero hown2) ((arr_zero hown).keep ((Fr.refl (fun _ => False) w1).grown hg2 (fun _ h => by cases h)) id) (by omega) h2 rfl rfl
    have hF := (((Fr.refl (fun _ => False) w).drew.grown hg (fun _ h => by cases h)).grown hg2 (fun _ h => by cases h)).alloc (.cells #[.slice (some ⟨w1.heap.size, 0, none⟩) n n, .slice (some ⟨w.drew.heap.size, 0, none⟩) n n, .int .i64 0, .int .i64 0] 97)
    have hs2 := hg2.size
    have hs1 : w.drew.heap.size = w.heap.size := rfl
    have HR := Lib.hid hR
    have HF := Lib.hid hF
    clear hR hF hown hown2 hg hg2
    refine regOne (i := 4) (by kernel_rfl) rfl (by rfl) (fun K hK => ?_)
    go_simp
    refine hK.out _ _ ?_
    clear hK K
    refine regOne (i := 5) (by kernel_rfl) rfl (by rfl) (fun K hK => ?_)
    go_simp
    refine hK.out _ _ ?_
    clear hK K
    refine regOne (i := 6) (by kernel_rfl) rfl (by rfl) (fun K hK => ?_)
    go_simp
    refine hK.out _ _ ?_
    clear hK K
    refine regOne (i := 7) (by kernel_rfl) rfl (by rfl) (fun K hK => ?_)
    go_simp
    refine hK.out _ _ ?_
    clear hK K
    refine wpAnyH_done (by kernel_rfl) ?_ _
    go_wp2
    go_ret2
    exact ⟨w2.heap.size, _, _, rfl, by omega, by omega, by omega, HR.out, HF.out⟩

end Go.Proofs.YtngpcalgjaglmaaDoor
