/- How many handles there are. -/
import Derived.Test.YtincfbgegoefgaaDoorObjC
namespace Go.Proofs.YtincfbgegoefgaaDoor
open Go.RowKit Go.Shelf
attribute [local go_sem] Oper.semAt_some

theorem KeepCells.put {S : Nat → Prop} (W : World) (l : Nat) (o o' : Obj) (h : W.heap[l]? = some o) (hc : o.isCells = false) : KeepCells S W (W.putObj l o') :=
  ⟨by simp, fun k c T f hk _ => by
    have hne : k ≠ l := by
      intro e; subst e; rw [h] at hk; cases hk; simp [Obj.isCells] at hc
    exact (World.putObj_heap_other hne).trans hk⟩
theorem KeepCells.set (W : World) (b o : Nat) (v : Value) : KeepCells (· = b) W (W.setCell ⟨b, o, none⟩ v) :=
  ⟨by simp, fun k c T f hk hs => by rw [block_setCell_ne hs]; exact hk⟩

set_option maxRecDepth 100000 in
set_option maxHeartbeats 2000000 in
theorem len_any (b rb : Nat) (rs : List Row) (w : World) (hL : ObjRep w b rb rs) :
    Calls Tryd.prog 12 #[.pointer (some ⟨b, 0, none⟩)] w fun e w' => e = .returned (.int .i64 (told rs).length) ∧ New w w' := by
  have hlen := hL.len
  have htl := told_le rs
  refine (callsIn_wide (n := 4)).1 ?_
  have h1 : 1 ≤ 4 := by omega
  refine callsIn_of_wp_marks Tryd.func12 rfl trivial ?_ rfl
  simp only [Tryd.ntmps12, List.size_toArray, List.length_cons, List.length_nil, Nat.reduceAdd, Nat.reduceSub, Array.replicate_succ, Array.replicate_zero, List.push_toArray, List.append_toArray, List.nil_append, List.cons_append]
  gi_wp2_with (first | (gi_at_call 28; refine (callsIn_wide.2 (all_any _ _)).mono ?_; rintro e w' ⟨rfl, rfl⟩) | (refine ⟨trivial, ?_⟩; gi_at_call 28; refine (callsIn_wide.2 (all_any _ _)).mono ?_; rintro e w' ⟨rfl, rfl⟩))
  have hb : (w.alloc (.cells #[.int .i64 0] 3)).cell? ⟨w.heap.size, 0, none⟩ = some (.int .i64 0) := by rw [World.cell?_alloc_new]; rfl
  have hfb : (w.alloc (.cells #[.int .i64 0] 3)).frozen? ⟨w.heap.size, 0, none⟩ = false := World.frozen?_alloc_new _ _ _ _
  obtain ⟨W1, hW1⟩ : ∃ W1, (w.alloc (.cells #[.int .i64 0] 3)).alloc (.cells #[.pointer (some ⟨b, 0, none⟩)] 22) = W1 := ⟨_, rfl⟩
  have hsz : W1.heap.size = w.heap.size + 2 := by rw [← hW1]; simp
  have f1 : New w W1 := by rw [← hW1]; exact ((Fr.refl _ _).alloc _).alloc _
  have hL1 : ObjRep W1 b rb rs := hL.keep f1 id id
  have hBn : W1.cell? ⟨w.heap.size + 1, 0, none⟩ = some (.pointer (some ⟨b, 0, none⟩)) := by
    rw [← hW1]; have := World.cell?_alloc_new (w.alloc (.cells #[.int .i64 0] 3)) #[.pointer (some ⟨b, 0, none⟩)] 22 0
    rw [World.size_alloc] at this; exact this
  have hb1 : W1.cell? ⟨w.heap.size, 0, none⟩ = some (.int .i64 0) := by
    rw [← hW1, World.cell?_alloc_past _ _ _ (by simp)]; exact hb
  have hf1 : W1.frozen? ⟨w.heap.size, 0, none⟩ = false := by
    rw [← hW1, World.frozen?_alloc_past _ _ _ (by simp)]; exact hfb
  rw [hW1]
  refine wpIn_rangeFunc_ownF rfl h1 (gf := 37) (lb := #[.pointer (some ⟨w.heap.size + 1, 0, none⟩)]) rfl trivial (enters_of Tryd.func37 (by kernel_rfl) rfl)
    (encs := fun x : Nat × Nat => #[.int .u64 x.1, .int .u64 x.2]) (Kp := KeepCells (· = w.heap.size)) (S := fun xs => xs = told rs) (Sp := fun pre => pre <+: told rs) (N := rs.length) (w0 := W1)
    (fun l J Jx W hW hA _ hY h0 => by
      have hf : New W1 W := Fr.ofBelow (B := W1.heap.size) hW (fun k h1 h2 => by omega)
      exact all1_in Fence.wide (4 - 1) trivial rfl (by omega) l (w.heap.size + 1) b rb rs (· = w.heap.size) J Jx hY W hA (fun k hk => by have := hf.size; omega)
        ((hf.cell (lt_of_cell hBn) id 0).trans hBn) (hL1.keep hf id id) h0)
    KeepCells.trans (fun W l o o' _ ho hc _ => KeepCells.put W l o o' ho hc) (Below.refl _ _) (fun _ => rfl)
    (fun pre W => (W.cell? ⟨w.heap.size, 0, none⟩ = some (.int .i64 pre.length) ∧ W.frozen? ⟨w.heap.size, 0, none⟩ = false) ∧ Below w.heap.size w W)
    (fun _ _ _ => False)
    (OwnFrom.and (Own.from (fun s A B row hs hg hr => ⟨cell_kept hs.1 hg hr, (frozen_kept hs.1 hg hr).trans hs.2⟩) _) (ownFrom_below (Nat.le_refl _) (by omega)))
    (fun _ _ _ _ _ hs _ _ => hs)
    ⟨⟨hb1, hf1⟩, f1.below (Nat.le_refl _) (fun _ h => h.elim)⟩
    (fun x => { tmps := #[.pointer (some ⟨b, 0, none⟩), undef, .int .i64 0, .pointer (some ⟨w.heap.size, 0, none⟩), .pointer (some ⟨b, 0, none⟩), .func (.func 37) #[] #[.pointer (some ⟨w.heap.size + 1, 0, none⟩)], .int .u64 x.1, .int .u64 x.2, undef, undef, undef], defers := [] }) ?assign ?body ?done ?stop
  case assign =>
    intro l x W K hK
    simp
    gi_wp2
    exact hK
  case body =>
    rintro l pre x W ⟨⟨hc, hf⟩, hB⟩ hlt
    gi_wp2
    exact ⟨KeepsOthers.setCell _ _ _, KeepCells.set _ _ _ _, ⟨by rw [List.length_append]; exact World.cell?_setCell_same' _ _ _ (by rw [hc]; rfl), by rw [World.frozen?_setCell]; exact hf⟩, hB.setCell (p := ⟨w.heap.size, 0, none⟩) (Nat.le_refl _) _⟩
  case done =>
    rintro D ys W hD rfl ⟨⟨hc, _⟩, hB⟩ hK
    gi_wp2
    refine ⟨by simp, .inl ⟨_, _, rfl, run_takeDeferred hK, ?_⟩⟩
    exact ⟨_, results_tmp rfl _ _ _, rfl, Fr.ofBelow (hB.trans (belowK_b (w := W1) (by omega) W D _ _ hD hK rfl rfl)) (fun k h1 h2 => by omega)⟩
  case stop =>
    rintro D c pre W _ _ h _
    exact h.elim

end Go.Proofs.YtincfbgegoefgaaDoor
