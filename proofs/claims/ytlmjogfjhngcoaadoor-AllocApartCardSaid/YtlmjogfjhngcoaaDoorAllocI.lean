/- What the statements' own collector gathers of the blocks. -/
import Derived.Test.YtlmjogfjhngcoaaDoorAllocH
import Derived.Deep.DeepCutAuto
namespace Go.Proofs.YtlmjogfjhngcoaaDoor
open Go.RowKit Go.Shelf

/-- The blocks of a slice, in block G. -/
def HeldC (G : Nat) (w : World) (bo : Option Addr) (L : List Bk) : Prop :=
  ∀ (j : Nat) (b : Bk), L[j]? = some b → ∃ cur, bo = some ⟨G, 0, none⟩ ∧ w.heap[G]? = some (.cells cur 43 (0, 0)) ∧ ∀ i u, (bC b)[i]? = some u → cur[j * 3 + i]? = some u
theorem HeldB.at {base : Nat} {w : World} {bo : Option Addr} {L : List Bk} (h : HeldB base w bo L) : ∃ G, base ≤ G ∧ HeldC G w bo L := by
  cases L with
  | nil => exact ⟨base, Nat.le_refl _, fun j x hj => by simp at hj⟩
  | cons a r =>
    obtain ⟨g, cur, h1, h2, h3, h4⟩ := h 0 a rfl
    refine ⟨g, h2, fun j x hj => ?_⟩
    obtain ⟨g', cur', h1', h2', h3', h4'⟩ := h j x hj
    rw [h1] at h1'
    cases h1'
    exact ⟨cur', h1, h3', h4'⟩
theorem HeldC.keep {G : Nat} {w w' : World} {bo : Option Addr} {L : List Bk} (h : HeldC G w bo L) (k : G < w.heap.size → w'.heap[G]? = w.heap[G]?) : HeldC G w' bo L := fun j x hj => by
  obtain ⟨cur, h1, h3, h4⟩ := h j x hj
  exact ⟨cur, h1, by rw [k (lt_of_block h3)]; exact h3, h4⟩

set_option maxRecDepth 100000 in
set_option maxHeartbeats 1000000 in
theorem blocks1_fn (y z : Value) (Bn ab mb : Nat) (v : Value) (F T : Int) (L : List Bk) (J : Nat → List Bk → World → Prop) (Jx : List Bk → World → Prop)
    (hY : ∀ G pre x W, J G pre W → G < W.heap.size → pre.length < L.length → Calls Tryd.prog 40 #[bV x, y, z] W fun e W' =>
      (e = .returned (.bool true) ∧ J G (pre ++ [x]) W' ∧ W'.heap[G]? = W.heap[G]?) ∨ (e = .returned (.bool false) ∧ Jx (pre ++ [x]) W'))
    (hJn : ∀ G pre W W', J G pre W → New W W' → J G pre W')
    (W : World) (hBn : W.cell? ⟨Bn, 0, none⟩ = some (.pointer (some ⟨ab, 0, none⟩))) (hL : AllocRep W ab mb v F T L) (h0 : ∀ G W', W.heap.size ≤ G → New W W' → J G [] W') :
    Calls Tryd.prog 52 #[.func (.func 40) #[] #[y, z], .pointer (some ⟨Bn, 0, none⟩)] W fun e W' => e = .returned (.tuple #[]) ∧
      ((∃ G, J G L W') ∨ (∃ pre, pre <+: L ∧ Jx pre W')) := by
  have hfew := hL.few
  have l1 := lt_of_cell hBn
  have l2 := lt_of_block hL.hd
  have c3 : W.cell? ⟨ab, 3, none⟩ = some v := cell_of_block hL.hd 3
  obtain ⟨ao, ca, rfl, _⟩ := owned_form hL.own
  have hsrc := Src.of_own hL.own
  have hle : (L.flatMap bC).length = L.length * 3 := len_flatMap bC 3 bC_len L
  obtain ⟨N, hN⟩ : ∃ N, L.length = N := ⟨_, rfl⟩
  obtain ⟨i0, hi, hz0, hz1, hz2⟩ := info_parts blkInfo
  rw [hN] at hfew c3 hsrc hle hY
  have hown := World.ownsRow_lit (base := W.heap.size) (e := 43) (size := 3) W #[] 0 (Nat.le_refl _) (Nat.zero_le _) rfl
  have HLE := Lib.hid hle
  have HS := Lib.hid hsrc
  have HN := Lib.hid hN
  have HY := Lib.hid hY
  have HJN := Lib.hid hJn
  have H0 := Lib.hid h0
  clear hN hY hL hsrc hle hJn h0
  go_enter Tryd.func52, Tryd.ntmps52
  go_wp2_with (at_builtin; refine wpList_append_src rfl (.tmp 5) (.tmp 9) 40 rfl W.heap.size 43 i0 _ 3 24 Tryd.underlying40 hi hz0 hz1 hz2 rfl (by decide) _ _ _ rfl hown ao N ca (L.flatMap bC) rfl HLE.out (HS.out.keep ((Fr.refl (fun _ => False) _).alloc _) (fun _ _ => id)) (bC_one _) (by unfold maxLen; omega) (by omega) (by simp) ?_; intro v2 w2 hown2 hgrow2; rw [List.nil_append, Nat.zero_add] at hown2; have f2 : Fr (fun k => W.heap.size ≤ k) W w2 := ((Fr.refl _ W).alloc _).grown hgrow2 (fun k hk _ => by cases hk; exact Nat.le_refl _); have n2 : New W w2 := (Fr.refl _ _).then f2 (fun i hi e => by omega); obtain ⟨bo, cb, rfl, hheld⟩ := heldB_own hown2; obtain ⟨G, hG, hat⟩ := hheld.at; have HH := Lib.hid hat; have HJ := Lib.hid (H0.out G w2 hG n2); clear hgrow2 hown2 f2 hown hheld n2 hat)
  go_loopw [12] (fun i wq => ∃ j : Nat, j ≤ N ∧ i = .int .i64 j ∧ HeldC G wq bo L ∧ J G (L.take j) wq) (fun i _ => N - (intOf i).toNat)
  case atStart => exact ⟨0, by omega, rfl, HH.out, HJ.out⟩
  case round =>
    obtain ⟨j, hj, rfl, hheld, hjj⟩ := hrel
    clear HJ
    by_cases hlt2 : j < N
    · obtain ⟨x, hx⟩ : ∃ x, L[j]? = some x := ⟨L[j]'(by rw [HN.out]; exact hlt2), by simp⟩
      obtain ⟨cur, rfl, hg, hc⟩ := hheld j x hx
      have lg := lt_of_block hg
      have x0 : wr.cell? ⟨G, j * 3, none⟩ = some (.int .i64 x.pos) := by rw [cell_of_block hg]; exact hc 0 _ rfl
      have x1 : wr.cell? ⟨G, j * 3 + 1, none⟩ = some (.int .i64 x.num) := by rw [cell_of_block hg]; exact hc 1 _ rfl
      have x2 : wr.cell? ⟨G, j * 3 + 2, none⟩ = some (.int .i64 x.wid) := by rw [cell_of_block hg]; exact hc 2 _ rfl
      have HC := Lib.hid (fun W1 (f : New wr W1) => HY.out G (L.take j) x W1 (HJN.out _ _ _ _ hjj f) (Nat.lt_of_lt_of_le lg f.size) (by rw [List.length_take, HN.out]; omega))
      have HX := Lib.hid hx
      have HHD := Lib.hid hheld
      have q1 : (0 : Int) ≤ (j : Int) := by omega
      have q2 : (j : Int) < (N : Int) := by omega
      clear hx hheld hjj hg hc
      go_wp2_with fail
      refine (HC.out _ ((Fr.refl _ _).alloc _)).mono ?_
      rintro e W3 (⟨rfl, hJ3, hk3⟩ | ⟨rfl, hJx3⟩)
      · have HH3 := Lib.hid (HHD.out.keep (fun hl => hk3.trans (block_alloc hl)))
        go_wp2
        go_roundw
        case rel => exact ⟨j + 1, by omega, by go_num, HH3.out, by rw [takeB HX.out]; exact hJ3⟩
        case measure => simp [intOf]; omega
      · go_wp2
        refine bodyPost_ret (results_none rfl _ _ _) rfl ?_
        exact ⟨rfl, .inr ⟨_, (by rw [← takeB HX.out]; exact List.take_prefix _ _), hJx3⟩⟩
    · go_wp2
      go_end0
      exact ⟨rfl, .inl ⟨G, by rw [List.take_of_length_le (by rw [HN.out]; omega)] at hjj; exact hjj⟩⟩

/-- The collector's variables: the slice's box, the bound's box; what was gathered lies behind block G; what was there when it began is as it was. -/
structure Coll (w0 : World) (base vb mb : Nat) (most : Int) (G : Nat) (ps : List Bk) (w : World) : Prop where
  low : vb < base ∧ mb < base ∧ vb ≠ mb ∧ base ≤ G ∧ w0.heap.size ≤ vb ∧ base ≤ w.heap.size
  box : ∃ v, w.cell? ⟨vb, 0, none⟩ = some v ∧ w.ownsRow (G + 1) 43 3 v ps.length (ps.flatMap bC)
  free : w.frozen? ⟨vb, 0, none⟩ = false
  bound : w.cell? ⟨mb, 0, none⟩ = some (.int .i64 most)
  new : New w0 w
theorem Coll.keep {w0 : World} {base vb mb : Nat} {most : Int} {G : Nat} {ps : List Bk} {w w' : World} (h : Coll w0 base vb mb most G ps w) (f : New w w') : Coll w0 base vb mb most G ps w' := by
  obtain ⟨h1, ⟨v, h2, h3⟩, h5, h6, h9⟩ := h
  have := f.size
  exact ⟨by omega, ⟨v, (f.cell (lt_of_cell h2) id 0).trans h2, own_keep h3 f (fun _ _ => id)⟩, (f.frozen (lt_of_cell h2) id 0).trans h5, (f.cell (lt_of_cell h6) id 0).trans h6, h9.trans f⟩

set_option maxRecDepth 100000 in
set_option maxHeartbeats 1000000 in
theorem fn_any (w0 : World) (base vb mb : Nat) (most : Int) (G : Nat) (ps : List Bk) (x : Bk) (w : World) (h : Coll w0 base vb mb most G ps w) (hG : G < w.heap.size) (hf : ps.length < 1000000) :
    Calls Tryd.prog 40 #[bV x, .pointer (some ⟨vb, 0, none⟩), .pointer (some ⟨mb, 0, none⟩)] w fun e w' =>
      e = .returned (.bool (decide ((ps.length : Int) + 1 < most))) ∧ Coll w0 base vb mb most G (ps ++ [x]) w' ∧ w'.heap[G]? = w.heap[G]? := by
  obtain ⟨hlow, ⟨v, hv, hown⟩, hz, hm, hn⟩ := h
  obtain ⟨n, hps⟩ : ∃ n, ps.length = n := ⟨_, rfl⟩
  obtain ⟨vo, vc, rfl, _⟩ := owned_form hown
  have l1 := lt_of_cell hv
  have l2 := lt_of_cell hm
  have hGs : G + 1 ≤ w.heap.size := hG
  have n2 : vb ≠ mb := hlow.2.2.1
  rw [hps] at hv hown hf ⊢
  obtain ⟨i0, hi, hz0, hz1, hz2⟩ := info_parts blkInfo
  have HPS := Lib.hid hps
  have HN := Lib.hid hn
  unfold bV
  clear hps hn
  go_enter Tryd.func40, Tryd.ntmps40
  go_wp2_with (at_builtin; refine wpList_append_src rfl (.tmp 5) (.tmp 7) 40 rfl (G + 1) 43 i0 _ 3 24 Tryd.underlying40 hi hz0 hz1 hz2 rfl (by decide) _ _ _ rfl ((hown.alloc _).alloc _) (some ⟨w.heap.size + 1, 0, none⟩) 1 1 (bC x) rfl rfl (.inr ⟨_, rfl, by simp, by have := Arr.add (Arr.new (w.alloc (.cells #[.int .i64 x.pos, .int .i64 x.num, .int .i64 x.wid] 43)) #[.int .i64 x.pos, .int .i64 x.num, .int .i64 x.wid] 43); rw [World.size_alloc] at this; exact this⟩) (by simp [bC, Value.oneCell']) (by unfold maxLen; omega) (by omega) (by simp; omega) ?_; intro v2 w2 hown2 hgrow2; obtain ⟨g', cap', rfl⟩ := ownsRow_succ hown2; have f2 : Fr (fun k => G < k) w w2 := (((Fr.refl _ w).alloc _).alloc _).grown hgrow2 (fun k hk _ => by have := hown.lt k hk; omega); have hv2 := (f2.cell l1 (by omega) 0).trans hv; have hz2' := (f2.frozen l1 (by omega) 0).trans hz; have hm2 := (f2.cell l2 (by omega) 0).trans hm; have HO2 := Lib.hid hown2; have F2 := Lib.hid f2; clear hgrow2 hown2 f2 hv hz hm hown)
  go_ret
  have f2 := F2.out
  have fall : Fr (fun k => k = vb ∨ G < k) w (w2.setCell ⟨vb, 0, none⟩ (.slice (some ⟨g', 0, none⟩) (n + 1) cap')) := (f2.mono (fun _ _ h => .inr h)).setCell (fun _ => .inl rfl) _
  have hsz := fall.size
  refine ⟨rfl, ⟨?_, ⟨_, cell_set_eq _ hv2, ?_⟩, ?_, ?_, ?_⟩, ?_⟩
  · refine ⟨hlow.1, hlow.2.1, hlow.2.2.1, hlow.2.2.2.1, hlow.2.2.2.2.1, by omega⟩
  · rw [List.length_append, HPS.out, List.flatMap_append, show [x].flatMap bC = bC x by simp]
    exact ownsRow_setCell_below HO2.out (by show vb < _; omega) _
  · rw [World.frozen?_setCell]; exact hz2'
  · rw [cell_set_ne _ (.inl n2)]; exact hm2
  · exact HN.out.then fall (fun i hi h => by omega)
  · exact fall.block G (by omega) (by omega)

theorem coll_end {w w1 w2 : World} {L : List Bk} {most : Nat}
    (h : (∃ G, Coll w w1.heap.size (w.heap.size + 2) w.heap.size most G L w2 ∧ L.length < most) ∨
      ∃ pre, pre <+: L ∧ (∃ G, Coll w w1.heap.size (w.heap.size + 2) w.heap.size most G pre w2) ∧ pre.length = most) :
    ∃ v, w2.cell? ⟨w.heap.size + 2, 0, none⟩ = some v ∧ w2.ownsRow w.heap.size 43 3 v (L.take most).length ((L.take most).flatMap bC) ∧ New w w2 := by
  obtain ⟨G, ps, hc, hps⟩ : ∃ G ps, Coll w w1.heap.size (w.heap.size + 2) w.heap.size most G ps w2 ∧ ps = L.take most := by
    rcases h with ⟨G, hc, hl⟩ | ⟨pre, hp, ⟨G, hc⟩, hl⟩
    · exact ⟨G, _, hc, by rw [List.take_of_length_le (by omega)]⟩
    · refine ⟨G, _, hc, ?_⟩
      rw [← hl]; exact List.prefix_iff_eq_take.1 hp
  subst hps
  obtain ⟨hlow, ⟨v, hv, hown⟩, _, _, hn⟩ := hc
  refine ⟨v, hv, ⟨hown.1, ?_⟩, hn⟩
  rcases hown.2 with h | ⟨g, cap, cur, h1, h2, h3⟩
  · exact .inl h
  · exact .inr ⟨g, cap, cur, h1, by omega, h3⟩

set_option maxRecDepth 100000 in
set_option maxHeartbeats 1000000 in
theorem lblocks_any (ab mb : Nat) (v : Value) (F T : Int) (L : List Bk) (most : Nat) (w : World) (hL : AllocRep w ab mb v F T L) (h1 : 1 ≤ most) (h2 : most < 1000000) :
    Calls Tryd.prog 18 #[.pointer (some ⟨ab, 0, none⟩), .int .i64 most] w fun e w' => ∃ v, e = .returned v ∧
      w'.ownsRow w.heap.size 43 3 v (L.take most).length ((L.take most).flatMap bC) ∧ New w w' := by
  have hn := hL.few
  obtain ⟨w1, hw1⟩ : ∃ w1, ((w.alloc (.cells #[.int .i64 most] 3)).alloc (.cells #[.pointer (some ⟨ab, 0, none⟩)] 24)).alloc (.cells #[.slice none 0 0] 40) = w1 := ⟨_, rfl⟩
  have f1 : New w w1 := by rw [← hw1]; exact (((Fr.refl _ _).alloc _).alloc _).alloc _
  have hsz : w1.heap.size = w.heap.size + 3 := by rw [← hw1]; simp
  have g1 : w1.heap[w.heap.size]? = some (.cells #[.int .i64 most] 3 (0, 0)) := by
    rw [← hw1, block_alloc (by simp; omega), block_alloc (by simp)]; exact block_alloc_new _ _
  have g2 : w1.heap[w.heap.size + 1]? = some (.cells #[.pointer (some ⟨ab, 0, none⟩)] 24 (0, 0)) := by
    rw [← hw1, block_alloc (by simp)]; have := block_alloc_new (w.alloc (.cells #[.int .i64 most] 3)) (.cells #[.pointer (some ⟨ab, 0, none⟩)] 24); rwa [World.size_alloc] at this
  have g3 : w1.heap[w.heap.size + 2]? = some (.cells #[.slice none 0 0] 40 (0, 0)) := by
    rw [← hw1]; have := block_alloc_new ((w.alloc (.cells #[.int .i64 most] 3)).alloc (.cells #[.pointer (some ⟨ab, 0, none⟩)] 24)) (.cells #[.slice none 0 0] 40); rwa [World.size_alloc, World.size_alloc] at this
  have hcall := blocks1_fn (.pointer (some ⟨w.heap.size + 2, 0, none⟩)) (.pointer (some ⟨w.heap.size, 0, none⟩)) (w.heap.size + 1) ab mb v F T L
    (fun G ps W => Coll w w1.heap.size (w.heap.size + 2) w.heap.size most G ps W ∧ ps.length < most)
    (fun ps W => (∃ G, Coll w w1.heap.size (w.heap.size + 2) w.heap.size most G ps W) ∧ ps.length = most)
    (fun G pre z W hJ hG hl => by
      have hJ2 := hJ.2
      refine (fn_any w _ _ _ most G pre z W hJ.1 hG (by omega)).mono fun e W' ⟨he, hc, hg⟩ => ?_
      have hl2 : (pre ++ [z]).length = pre.length + 1 := by simp
      by_cases hlt : pre.length + 1 < most
      · exact .inl ⟨by rw [he, decide_eq_true (by omega)], ⟨hc, by omega⟩, hg⟩
      · exact .inr ⟨by rw [he, decide_eq_false (by omega)], ⟨G, hc⟩, by omega⟩)
    (fun G pre W W' hJ f => ⟨hJ.1.keep f, hJ.2⟩)
    w1 (by rw [cell_of_block g2]; rfl) (hL.new f1)
    (fun G W' hG hf => ⟨Coll.keep ⟨by omega, ⟨_, by rw [cell_of_block g3]; rfl, World.ownsRow_nil _ _ _ _⟩, free_of_block g3 _, by rw [cell_of_block g1]; rfl, f1⟩ hf, by simp; omega⟩)
  have hfn : ∀ (w : World) (x : Array Value), (binOp .eql 86 (.func (.func 52) #[] x) .nilFunc).run Tryd.prog w = .ok (.bool false) w := fun _ _ => by kernel_rfl
  have HC := Lib.hid hcall
  have HW1 := Lib.hid hw1
  clear hcall g1 g2 g3 hsz hw1 f1
  have hm : ¬ ((most : Int) < 1) := by omega
  go_enter Tryd.func18, Tryd.ntmps18
  go_wp2_with (first
    | (go_at_call 39; refine (blocks_any _ _).mono ?_; rintro e w' ⟨rfl, rfl⟩)
    | (go_at_call 52; rw [show w.heap.size + 1 + 1 = w.heap.size + 2 from rfl, HW1.out]; refine HC.out.mono ?_; rintro e w2 ⟨rfl, hres⟩; obtain ⟨v, hv, hown, hnew⟩ := coll_end hres; have HN := Lib.hid hnew; clear hres hnew))
  go_ret
  exact ⟨_, rfl, hown, HN.out⟩
theorem rm_blocks {w0 w : World} {ab mb cb wb M : Nat} {F T : Int} {l : List Bk} {most : Nat} (h : Rm w0 w ab mb cb wb F T l M) (h1 : 1 ≤ most) (h2 : most < 1000000) :
    Calls Tryd.prog 18 #[.pointer (some ⟨ab, 0, none⟩), .int .i64 most] w fun e w' => ∃ v, e = .returned v ∧ w'.ownsRow w.heap.size 43 3 v (l.take most).length ((l.take most).flatMap bC) ∧ New w w' := by
  obtain ⟨v, ws, ha, _, _⟩ := h.ex
  exact lblocks_any ab mb v F T l most w ha.a h1 h2
theorem rm_used {w0 w : World} {ab mb cb wb M : Nat} {F T Ud : Int} {l : List Bk} (h : Rm w0 w ab mb cb wb F T l M) (hU : usedN l = Ud) :
    Calls Tryd.prog 21 #[.pointer (some ⟨ab, 0, none⟩)] w fun e w' => e = .returned (.int .i64 Ud) ∧ New w w' := by
  obtain ⟨v, ws, ha, _, _⟩ := h.ex
  rw [← hU]
  exact used_any ab mb v F T l w ha.a

end Go.Proofs.YtlmjogfjhngcoaaDoor
