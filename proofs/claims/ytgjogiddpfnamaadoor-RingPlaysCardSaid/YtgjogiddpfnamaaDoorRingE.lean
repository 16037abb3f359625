/- The statements' own collector of a ring; the document's example. -/
import Derived.Test.YtgjogiddpfnamaaDoorRingD
namespace Go.Proofs.YtgjogiddpfnamaaDoor
open Go.RowKit Go.Shelf

theorem tells_snd (L : List Nat) : (tells L).map (·.2) = L := by
  unfold tells
  rw [List.map_map]
  apply List.ext_getElem?
  intro i
  by_cases h : i < L.length
  · simp [List.getElem?_map, List.getElem?_range h, List.getD_eq_getElem?_getD, List.getElem?_eq_getElem h]
  · rw [List.getElem?_eq_none (by simp; omega), List.getElem?_eq_none (by omega)]

theorem coll_end {w w1 w2 : World} {L : List Nat} {most : Nat}
    (h : (∃ G, Coll w w1.heap.size (w.heap.size + 3) (w.heap.size + 2) w.heap.size most G ((tells L).map (·.2)) w2 ∧ ((tells L).map (·.2)).length < most) ∨
      ∃ pre, pre <+: tells L ∧ (∃ G, Coll w w1.heap.size (w.heap.size + 3) (w.heap.size + 2) w.heap.size most G (pre.map (·.2)) w2) ∧ (pre.map (·.2)).length = most) :
    ∃ v, w2.cell? ⟨w.heap.size + 2, 0, none⟩ = some v ∧ w2.cell? ⟨w.heap.size + 3, 0, none⟩ = some (.bool true) ∧ w2.ownsRow w.heap.size 34 1 v (L.take most).length (u64c (L.take most)) ∧ New w w2 := by
  obtain ⟨G, ps, hc, hps⟩ : ∃ G ps, Coll w w1.heap.size (w.heap.size + 3) (w.heap.size + 2) w.heap.size most G ps w2 ∧ ps = L.take most := by
    rcases h with ⟨G, hc, hl⟩ | ⟨pre, hp, ⟨G, hc⟩, hl⟩
    · exact ⟨G, _, hc, by rw [tells_snd] at hl ⊢; rw [List.take_of_length_le (by omega)]⟩
    · refine ⟨G, _, hc, ?_⟩
      have h1 := List.prefix_iff_eq_take.1 hp
      rw [List.length_map] at hl
      rw [h1, hl, List.map_take, tells_snd]
  subst hps
  obtain ⟨hlow, ⟨v, hv, hown⟩, _, _, ho, _, hn⟩ := hc
  refine ⟨v, hv, ho, ⟨hown.1, ?_⟩, hn⟩
  rcases hown.2 with h | ⟨g, cap, cur, h1, h2, h3⟩
  · exact .inl h
  · exact .inr ⟨g, cap, cur, h1, by omega, h3⟩

set_option maxRecDepth 100000 in
set_option maxHeartbeats 1000000 in
theorem allL_any (b lb : Nat) (cs : List Nat) (f k0 : Nat) (most : Nat) (w : World) (hL : RingRep w b lb cs f k0) (h1 : 1 ≤ most) (h2 : most < 1000000) :
    Calls Tryd.prog 20 #[.pointer (some ⟨b, 0, none⟩), .int .i64 most] w fun e w' => ∃ v, e = .returned (.tuple #[v, .bool true]) ∧
      w'.ownsRow w.heap.size 34 1 v ((ringL cs f k0).take most).length (u64c ((ringL cs f k0).take most)) ∧ New w w' := by
  have hn := hL.len
  obtain ⟨w1, hw1⟩ : ∃ w1, (((w.alloc (.cells #[.int .i64 most] 3)).alloc (.cells #[.pointer (some ⟨b, 0, none⟩)] 22)).alloc (.cells #[.slice none 0 0] 49)).alloc (.cells #[.bool true] 4) = w1 := ⟨_, rfl⟩
  have f1 : New w w1 := by rw [← hw1]; exact ((((Fr.refl _ _).alloc _).alloc _).alloc _).alloc _
  have hsz : w1.heap.size = w.heap.size + 4 := by rw [← hw1]; simp
  have g1 : w1.heap[w.heap.size]? = some (.cells #[.int .i64 most] 3 (0, 0)) := by
    rw [← hw1, block_alloc (by simp; omega), block_alloc (by simp; omega), block_alloc (by simp)]; exact block_alloc_new _ _
  have g2 : w1.heap[w.heap.size + 1]? = some (.cells #[.pointer (some ⟨b, 0, none⟩)] 22 (0, 0)) := by
    rw [← hw1, block_alloc (by simp <;> omega), block_alloc (by simp)]; have := block_alloc_new (w.alloc (.cells #[.int .i64 most] 3)) (.cells #[.pointer (some ⟨b, 0, none⟩)] 22); rwa [World.size_alloc] at this
  have g3 : w1.heap[w.heap.size + 2]? = some (.cells #[.slice none 0 0] 49 (0, 0)) := by
    rw [← hw1, block_alloc (by simp)]; have := block_alloc_new ((w.alloc (.cells #[.int .i64 most] 3)).alloc (.cells #[.pointer (some ⟨b, 0, none⟩)] 22)) (.cells #[.slice none 0 0] 49); rwa [World.size_alloc, World.size_alloc] at this
  have g4 : w1.heap[w.heap.size + 3]? = some (.cells #[.bool true] 4 (0, 0)) := by
    rw [← hw1]; have := block_alloc_new (((w.alloc (.cells #[.int .i64 most] 3)).alloc (.cells #[.pointer (some ⟨b, 0, none⟩)] 22)).alloc (.cells #[.slice none 0 0] 49)) (.cells #[.bool true] 4); rwa [World.size_alloc, World.size_alloc, World.size_alloc] at this
  have hcall := all1_fn (.pointer (some ⟨w.heap.size + 3, 0, none⟩)) (.pointer (some ⟨w.heap.size + 2, 0, none⟩)) (.pointer (some ⟨w.heap.size, 0, none⟩)) (w.heap.size + 1) b lb cs f k0
    (fun G ps W => Coll w w1.heap.size (w.heap.size + 3) (w.heap.size + 2) w.heap.size most G (ps.map (·.2)) W ∧ (ps.map (·.2)).length < most)
    (fun ps W => (∃ G, Coll w w1.heap.size (w.heap.size + 3) (w.heap.size + 2) w.heap.size most G (ps.map (·.2)) W) ∧ (ps.map (·.2)).length = most)
    (fun G pre z W hJ hG hl hz => by
      have hJ2 := hJ.2
      have hll : (pre.map (·.2)).length = z.1 := by rw [List.length_map]; exact hl
      have := fn_any w _ _ _ _ most G (pre.map (·.2)) z.2 W hJ.1 hG (by omega)
      rw [hll] at this
      refine this.mono fun e W' ⟨he, hc, hg⟩ => ?_
      rw [← show (pre ++ [z]).map (·.2) = pre.map (·.2) ++ [z.2] by simp] at hc
      have hl2 : ((pre ++ [z]).map (·.2)).length = z.1 + 1 := by simp; omega
      by_cases hlt : z.1 + 1 < most
      · exact .inl ⟨by rw [he, decide_eq_true (by omega)], ⟨hc, by omega⟩, hg⟩
      · exact .inr ⟨by rw [he, decide_eq_false (by omega)], ⟨G, hc⟩, by omega⟩)
    w1 (by rw [cell_of_block g2]; rfl) (hL.keep f1 id id)
    (fun G W' hG hf => ⟨Coll.keep ⟨by omega, ⟨_, by rw [cell_of_block g3]; rfl, World.ownsRow_nil _ _ _ _⟩, free_of_block g3 _, by rw [cell_of_block g1]; rfl, by rw [cell_of_block g4]; rfl, free_of_block g4 _, f1⟩ hf, by simp; omega⟩)
  have hfn : ∀ (w : World) (x : Array Value), (binOp .eql 70 (.func (.func 32) #[] x) .nilFunc).run Tryd.prog w = .ok (.bool false) w := fun _ _ => by kernel_rfl
  have HC := Lib.hid hcall
  have HW1 := Lib.hid hw1
  clear hcall g1 g2 g3 g4 hsz hw1 f1
  have hm : ¬ ((most : Int) < 1) := by omega
  go_enter Tryd.func20, Tryd.ntmps20
  go_wp2_with (first
    | (go_at_call 24; refine (all_any _ _).mono ?_; rintro e w' ⟨rfl, rfl⟩)
    | (go_at_call 32; rw [show w.heap.size + 1 + 1 = w.heap.size + 2 from rfl, show w.heap.size + 2 + 1 = w.heap.size + 3 from rfl, HW1.out]; refine HC.out.mono ?_; rintro e w2 ⟨rfl, hres⟩; obtain ⟨v, hv, hov, hown, hnew⟩ := coll_end hres; have HN := Lib.hid hnew; clear hres hnew))
  go_quiet (fail)
  go_wp2
  go_ret2
  exact ⟨v, rfl, own_keep hown ((Fr.refl (fun _ => False) _).drewN nq) (fun _ _ => id), HN.out.drewN nq⟩

set_option maxRecDepth 100000 in
set_option maxHeartbeats 2000000 in
theorem awake_any (w : World) (hg : Laid w) : Calls Tryd.prog 10 #[] w fun e w' => e = .returned (.bool true) ∧ New w w' := by
  have HG := Lib.hid hg
  clear hg
  go_enter Tryd.func10, Tryd.ntmps10
  go_wp2_with fail
  refine (new_any 2 _ (by omega) (by omega)).mono ?_
  rintro e w1 ⟨b, lb, rfl, hb, hlb, hr, hn1⟩
  have HR := Lib.hid hr
  have HN := Lib.hid hn1
  clear hr hn1
  go_wp2_with fail
  refine (put_ok b lb _ 0 0 5 w1 HR.out (by simp) (by omega)).mono ?_
  rintro e w2 ⟨rfl, hr2, hf2⟩
  have HR2 := Lib.hid (show RingRep w2 b lb [5, 0] 0 1 from hr2)
  have HN2 := Lib.hid (HN.out.then hf2 (fun i hi e => by unfold inRing at e; omega))
  clear hr2 hf2 HR HN
  go_wp2_with fail
  refine (put_ok b lb _ 0 1 6 w2 HR2.out (by simp) (by omega)).mono ?_
  rintro e w3 ⟨rfl, hr3, hf3⟩
  have HR3 := Lib.hid (show RingRep w3 b lb [5, 6] 0 2 from hr3)
  have HN3 := Lib.hid (HN2.out.then hf3 (fun i hi e => by unfold inRing at e; omega))
  clear hr3 hf3 HR2 HN2
  go_wp2_with fail
  refine (put_full b lb _ 0 2 7 w3 HR3.out (by simp)).mono ?_
  rintro e w4 ⟨eb, rfl, he, hn4⟩
  have HE := Lib.hid (he.says (by omega) (by omega))
  have HR4 := Lib.hid (HR3.out.keep hn4 id id)
  have HN4 := Lib.hid (HN3.out.trans hn4)
  clear he hn4 HR3 HN3
  go_wp2_with fail
  refine (no_any ringS 0 3 _).mono ?_
  rintro e w5 ⟨f, rfl, hf, hn5⟩
  have HSM := Lib.hid (same_says _ f ringS (some (0, 3)) w5 (HG.out.keep (HN4.out.trans hn5) id) (HE.out.new hn5) hf)
  have HR5 := Lib.hid (HR4.out.keep hn5 id id)
  have HN5 := Lib.hid (HN4.out.trans hn5)
  clear hf hn5 HR4 HN4 HE
  go_wp2_with fail
  refine HSM.out.mono ?_
  rintro e w6 ⟨rfl, hn6⟩
  have HR6 := Lib.hid (HR5.out.keep hn6 id id)
  have HN6 := Lib.hid (HN5.out.trans hn6)
  clear hn6 HR5 HN5 HSM
  go_wp2_with fail
  refine (take_ok b lb _ 0 1 w6 HR6.out).mono ?_
  rintro e w7 ⟨rfl, hr7, hf7⟩
  have HR7 := Lib.hid (show RingRep w7 b lb [5, 6] 1 1 from hr7)
  have HN7 := Lib.hid (HN6.out.then hf7 (fun i hi e => by unfold inRing at e; omega))
  rw [show List.getD [5, 6] 0 0 = 5 from rfl]
  clear hr7 hf7 HR6 HN6
  go_wp2_with fail
  refine (len_any b lb _ 1 1 w7 HR7.out).mono ?_
  rintro e w8 ⟨rfl, hn8⟩
  have HN8 := Lib.hid (HN7.out.trans hn8)
  clear hn8
  go_wp2
  go_ret
  exact ⟨rfl, HN8.out⟩

end Go.Proofs.YtgjogiddpfnamaaDoor
