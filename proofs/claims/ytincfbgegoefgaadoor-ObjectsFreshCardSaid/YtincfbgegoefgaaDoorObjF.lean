/- What the statement's own collector gathers. -/
import Derived.Test.YtincfbgegoefgaaDoorObjD
namespace Go.Proofs.YtincfbgegoefgaaDoor
open Go.RowKit Go.Shelf

def pairCells (p : Nat × Nat) : List Value := [.int .u64 p.1, .int .u64 p.2]
theorem pairCells_len (p : Nat × Nat) : (pairCells p).length = 2 := rfl
theorem pairInfo : (Tryd.prog.info? 87).map (fun i => (i.zero, i.size, i.bytes)) = some (some (.agg #[.int .u64 0, .int .u64 0]), 2, 16) := by kernel_rfl

/-- The collector's variables: the slice's box, the bound's box, what was gathered lies behind block G; what was there when it began is as it was. -/
structure Coll (w0 : World) (base lb mb : Nat) (most : Int) (G : Nat) (ps : List (Nat × Nat)) (w : World) : Prop where
  low : lb < base ∧ mb < base ∧ lb ≠ mb ∧ base ≤ G ∧ w0.heap.size ≤ lb ∧ base ≤ w.heap.size
  box : ∃ v, w.cell? ⟨lb, 0, none⟩ = some v ∧ w.ownsRow (G + 1) 87 2 v ps.length (ps.flatMap pairCells)
  free : w.frozen? ⟨lb, 0, none⟩ = false
  bound : w.cell? ⟨mb, 0, none⟩ = some (.int .i64 most)
  new : New w0 w

theorem Coll.keep {w0 : World} {base lb mb : Nat} {most : Int} {G : Nat} {ps : List (Nat × Nat)} {w w' : World} (h : Coll w0 base lb mb most G ps w) (f : New w w') : Coll w0 base lb mb most G ps w' := by
  obtain ⟨h1, ⟨v, h2, h3⟩, h5, h6, h7⟩ := h
  have := f.size
  refine ⟨by omega, ⟨v, ?_, ?_⟩, ?_, ?_, h7.trans f⟩
  · rw [f.cell (by omega) id]; exact h2
  · exact h3.kept (row := none) ⟨f.os, f.tape, f.output, f.size, fun k hk _ => f.block k hk id⟩ (by cases hb : v.ownBlock <;> simp)
  · rw [f.frozen (by omega) id]; exact h5
  · rw [f.cell (by omega) id]; exact h6

theorem coll_keep1 {w0 : World} {base lb mb : Nat} {most : Int} {G : Nat} {ps : List (Nat × Nat)} {w w1 : World} {v : Value} {o : Obj} (h : Coll w0 base lb mb most G ps w) (hG : G < w.heap.size) (hv : w.cell? ⟨lb, 0, none⟩ = some v)
    (hown : w.ownsRow (G + 1) 87 2 v ps.length (ps.flatMap pairCells)) (hgrow : (w.alloc o).grownBy w1 v.ownBlock) :
    w1.cell? ⟨lb, 0, none⟩ = some v ∧ w1.frozen? ⟨lb, 0, none⟩ = false ∧ w1.cell? ⟨mb, 0, none⟩ = some (.int .i64 most) ∧ w1.heap[G]? = w.heap[G]? ∧ Fr (fun k => G < k) w w1 := by
  obtain ⟨h1, _, h5, h6, h7⟩ := h
  have f : Fr (fun k => G < k) w w1 := ((Fr.refl _ w).alloc o).grown hgrow (fun k hk _ => by have := hown.lt k hk; omega)
  exact ⟨(f.cell (by omega) (by omega) 0).trans hv, (f.frozen (by omega) (by omega) 0).trans h5, (f.cell (by omega) (by omega) 0).trans h6, f.block G hG (by omega), f⟩

theorem coll_step {w0 : World} {base lb mb : Nat} {most : Int} {G : Nat} {ps : List (Nat × Nat)} {w w1 : World} {v v' : Value} {p : Nat × Nat} {xs : List Value} {m : Nat} (h : Coll w0 base lb mb most G ps w) (hG : G < w.heap.size) (hv : w1.cell? ⟨lb, 0, none⟩ = some v)
    (hm' : w1.cell? ⟨mb, 0, none⟩ = some (.int .i64 most)) (hz' : w1.frozen? ⟨lb, 0, none⟩ = false)
    (hown : w1.ownsRow (G + 1) 87 2 v' m xs) (hm : m = ps.length + 1) (hx : xs = ps.flatMap pairCells ++ pairCells p) (f : Fr (fun k => G < k) w w1) :
    Coll w0 base lb mb most G (ps ++ [p]) (w1.setCell ⟨lb, 0, none⟩ v') ∧ (w1.setCell ⟨lb, 0, none⟩ v').heap[G]? = w.heap[G]? := by
  have h1 := h.low
  have := f.size
  have := h.new.size
  have e : (ps ++ [p]).flatMap pairCells = xs := by rw [hx, List.flatMap_append]; simp
  subst hm
  refine ⟨⟨by simp; omega, ⟨v', cell_set_eq _ hv, ?_⟩, by rw [World.frozen?_setCell]; exact hz', by rw [cell_set_ne _ (by omega)]; exact hm', ?_⟩, ?_⟩
  · rw [e, List.length_append]
    exact ownsRow_setCell_below hown (by show lb < _; omega) _
  · have f2 : Fr (fun k => w0.heap.size ≤ k) w (w1.setCell ⟨lb, 0, none⟩ v') := (f.mono (fun k _ hk => by omega)).setCell (fun _ => by show _ ≤ lb; omega) _
    exact h.new.then f2 (fun i hi hs => by omega)
  · rw [block_setCell_ne (by omega)]; exact f.block G hG (by omega)

set_option maxRecDepth 100000 in
set_option maxHeartbeats 400000 in
theorem fn_any (w0 : World) (base lb mb : Nat) (most : Int) (G : Nat) (ps : List (Nat × Nat)) (p : Nat × Nat) (w : World) (h : Coll w0 base lb mb most G ps w) (hG : G < w.heap.size) (hf : ps.length < 1000000) :
    Calls Tryd.prog 31 #[.int .u64 p.1, .int .u64 p.2, .pointer (some ⟨lb, 0, none⟩), .pointer (some ⟨mb, 0, none⟩)] w fun e w' =>
      e = .returned (.bool (decide ((ps.length : Int) + 1 < most))) ∧ Coll w0 base lb mb most G (ps ++ [p]) w' ∧ w'.heap[G]? = w.heap[G]? := by
  obtain ⟨v, hv, hown⟩ := h.box
  have l1 := lt_of_cell hv
  have l2 := lt_of_cell h.bound
  have hlow : G + 1 ≤ w.heap.size := hG
  have hne : lb ≠ mb := h.low.2.2.1
  obtain ⟨i0, hi, hz0, hz1, hz2⟩ := info_parts pairInfo
  go_enter Tryd.func31, Tryd.ntmps31
  go_wp2_with (at_builtin; refine wpList_append_own _ rfl (.tmp 7) (.tmp 11) 56 rfl (G + 1) 87 i0 _ 2 16 Tryd.underlying56 hi hz0 hz1 hz2 rfl (by decide) _ _ _ rfl (hown.alloc _) ⟨w.heap.size, 0, none⟩ 1 1 (pairCells p) rfl rfl (Arr.add (Arr.new _ _ _)) (by simp [pairCells, Value.oneCell']) (by unfold maxLen; omega) (by omega) (by simp; omega) ?_; intro v' w1 hown' hgrow hnil; obtain ⟨g', cap', rfl⟩ := ownsRow_succ hown'; obtain ⟨k1, k2, k3, k4, k5⟩ := coll_keep1 h hG hv hown hgrow; have S := Lib.hid (coll_step (p := p) h hG k1 k3 k2 hown' rfl rfl k5); clear k4 k5 hnil hgrow)
  go_ret
  exact ⟨rfl, S.out⟩

theorem coll_end {w w1 w2 : World} {rs : List Row} {most : Nat} (hsz : w1.heap.size = w.heap.size + 3)
    (h : (∃ G, Coll w w1.heap.size (w.heap.size + 2) w.heap.size most G (told rs) w2 ∧ (told rs).length < most) ∨
      ∃ pre, pre <+: told rs ∧ (∃ G, Coll w w1.heap.size (w.heap.size + 2) w.heap.size most G pre w2) ∧ pre.length = most) :
    ∃ v, w2.cell? ⟨w.heap.size + 2, 0, none⟩ = some v ∧ w2.ownsRow w.heap.size 87 2 v ((told rs).take most).length (((told rs).take most).flatMap pairCells) ∧ New w w2 := by
  obtain ⟨G, ps, hc, hps⟩ : ∃ G ps, Coll w w1.heap.size (w.heap.size + 2) w.heap.size most G ps w2 ∧ ps = (told rs).take most := by
    rcases h with ⟨G, hc, hl⟩ | ⟨pre, hp, ⟨G, hc⟩, hl⟩
    · exact ⟨G, _, hc, by rw [List.take_of_length_le (by omega)]⟩
    · exact ⟨G, _, hc, by rw [← hl]; exact List.prefix_iff_eq_take.1 hp⟩
  subst hps
  obtain ⟨v, hv, hown⟩ := hc.box
  have := hc.low
  refine ⟨v, hv, ⟨hown.1, ?_⟩, hc.new⟩
  rcases hown.2 with h | ⟨g, cap, cur, h1, h2, h3⟩
  · exact .inl h
  · exact .inr ⟨g, cap, cur, h1, by omega, h3⟩

set_option maxRecDepth 100000 in
set_option maxHeartbeats 1000000 in
theorem allL_any (b rb : Nat) (rs : List Row) (most : Nat) (w : World) (hL : ObjRep w b rb rs) (h1 : 1 ≤ most) (h2 : most < 1000000) :
    Calls Tryd.prog 24 #[.pointer (some ⟨b, 0, none⟩), .int .i64 most] w fun e w' => ∃ v, e = .returned v ∧
      w'.ownsRow w.heap.size 87 2 v ((told rs).take most).length (((told rs).take most).flatMap pairCells) ∧ New w w' := by
  have hn := hL.len
  obtain ⟨w1, hw1⟩ : ∃ w1, ((w.alloc (.cells #[.int .i64 most] 3)).alloc (.cells #[.pointer (some ⟨b, 0, none⟩)] 22)).alloc (.cells #[.slice none 0 0] 56) = w1 := ⟨_, rfl⟩
  have f1 : New w w1 := by rw [← hw1]; exact (((Fr.refl _ _).alloc _).alloc _).alloc _
  have hsz : w1.heap.size = w.heap.size + 3 := by rw [← hw1]; simp
  have g1 : w1.heap[w.heap.size]? = some (.cells #[.int .i64 most] 3 (0, 0)) := by
    rw [← hw1, block_alloc (by simp; omega), block_alloc (by simp)]; exact block_alloc_new _ _
  have g2 : w1.heap[w.heap.size + 1]? = some (.cells #[.pointer (some ⟨b, 0, none⟩)] 22 (0, 0)) := by
    rw [← hw1, block_alloc (by simp)]; have := block_alloc_new (w.alloc (.cells #[.int .i64 most] 3)) (.cells #[.pointer (some ⟨b, 0, none⟩)] 22); rwa [World.size_alloc] at this
  have g3 : w1.heap[w.heap.size + 2]? = some (.cells #[.slice none 0 0] 56 (0, 0)) := by
    rw [← hw1]; have := block_alloc_new ((w.alloc (.cells #[.int .i64 most] 3)).alloc (.cells #[.pointer (some ⟨b, 0, none⟩)] 22)) (.cells #[.slice none 0 0] 56); rwa [World.size_alloc, World.size_alloc] at this
  have hcall := all1_fn (.pointer (some ⟨w.heap.size + 2, 0, none⟩)) (.pointer (some ⟨w.heap.size, 0, none⟩)) (w.heap.size + 1) b rb rs
    (fun G ps W => Coll w w1.heap.size (w.heap.size + 2) w.heap.size most G ps W ∧ ps.length < most)
    (fun ps W => (∃ G, Coll w w1.heap.size (w.heap.size + 2) w.heap.size most G ps W) ∧ ps.length = most)
    (fun G pre z W hJ hG hl => (fn_any w _ _ _ most G pre z W hJ.1 hG (by have := hJ.2; omega)).mono fun e W' ⟨he, hc, hg⟩ => by
      have hJ2 := hJ.2
      by_cases hlt : pre.length + 1 < most
      · exact .inl ⟨by rw [he, decide_eq_true (by omega)], ⟨hc, by simp; omega⟩, hg⟩
      · exact .inr ⟨by rw [he, decide_eq_false (by omega)], ⟨G, hc⟩, by simp; omega⟩)
    w1 (fun G s W W' hJ hf => ⟨hJ.1.keep hf, hJ.2⟩) (by rw [cell_of_block g2]; rfl) (hL.keep f1 id id)
    (fun G hG => ⟨⟨by omega, ⟨_, by rw [cell_of_block g3]; rfl, World.ownsRow_nil _ _ _ _⟩, free_of_block g3 _, by rw [cell_of_block g1]; rfl, f1⟩, by simp; omega⟩)
  have hfn : ∀ (w : World) (x : Array Value), (binOp .eql 81 (.func (.func 37) #[] x) .nilFunc).run Tryd.prog w = .ok (.bool false) w := fun _ _ => by kernel_rfl
  have HC := Lib.hid hcall
  have HS := Lib.hid hsz
  clear hcall g1 g2 g3 hsz
  have hm : ¬ ((most : Int) < 1) := by omega
  go_enter Tryd.func24, Tryd.ntmps24
  go_wp2_with (first
    | (go_at_call 28; refine (all_any _ _).mono ?_; rintro e w' ⟨rfl, rfl⟩)
    | (go_at_call 37; rw [show w.heap.size + 1 + 1 = w.heap.size + 2 from rfl]; refine HC.out.mono ?_; rintro e w2 ⟨rfl, hres⟩; obtain ⟨v, hv, hown, hnew⟩ := coll_end HS.out hres; clear hres))
  go_ret
  exact ⟨v, rfl, hown, hnew⟩

end Go.Proofs.YtincfbgegoefgaaDoor
