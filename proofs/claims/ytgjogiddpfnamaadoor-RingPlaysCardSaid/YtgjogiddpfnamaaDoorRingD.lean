/- What the statements' own collector gathers of a ring. -/
import Derived.Test.YtgjogiddpfnamaaDoorRingC
import Derived.Deep.DeepCutAuto
namespace Go.Proofs.YtgjogiddpfnamaaDoor
open Go.RowKit Go.Shelf

/-- The numbers of a slice, in block G. -/
def HeldAt (G : Nat) (w : World) (bo : Option Addr) (L : List Nat) : Prop :=
  ∀ j x : Nat, L[j]? = some x → ∃ cur, bo = some ⟨G, 0, none⟩ ∧ w.heap[G]? = some (.cells cur 34 (0, 0)) ∧ cur[j]? = some (.int .u64 x)
theorem Held.at {base : Nat} {w : World} {bo : Option Addr} {L : List Nat} (h : Held base w bo L) : ∃ G, base ≤ G ∧ HeldAt G w bo L := by
  cases L with
  | nil => exact ⟨base, Nat.le_refl _, fun j x hj => by simp at hj⟩
  | cons a r =>
    obtain ⟨g, cur, h1, h2, h3, h4⟩ := h 0 a rfl
    refine ⟨g, h2, fun j x hj => ?_⟩
    obtain ⟨g', cur', h1', h2', h3', h4'⟩ := h j x hj
    rw [h1] at h1'
    cases h1'
    exact ⟨cur', h1, h3', h4'⟩
theorem HeldAt.keep {G : Nat} {w w' : World} {bo : Option Addr} {L : List Nat} (h : HeldAt G w bo L) (k : w'.heap[G]? = w.heap[G]?) : HeldAt G w' bo L := fun j x hj => by
  obtain ⟨cur, h1, h3, h4⟩ := h j x hj
  exact ⟨cur, h1, by rw [k]; exact h3, h4⟩

set_option maxRecDepth 100000 in
set_option maxHeartbeats 1000000 in
theorem all1_fn (x y z : Value) (Bn b lb : Nat) (cs : List Nat) (f k0 : Nat) (J : Nat → List (Nat × Nat) → World → Prop) (Jx : List (Nat × Nat) → World → Prop)
    (hY : ∀ G pre p W, J G pre W → G < W.heap.size → pre.length = p.1 → p.1 < k0 → Calls Tryd.prog 26 #[.int .i64 (p.1 : Nat), .int .u64 (p.2 : Nat), x, y, z] W fun e W' =>
      (e = .returned (.bool true) ∧ J G (pre ++ [p]) W' ∧ W'.heap[G]? = W.heap[G]?) ∨ (e = .returned (.bool false) ∧ Jx (pre ++ [p]) W'))
    (W : World) (hBn : W.cell? ⟨Bn, 0, none⟩ = some (.pointer (some ⟨b, 0, none⟩))) (hL : RingRep W b lb cs f k0) (h0 : ∀ G W', W.heap.size ≤ G → New W W' → J G [] W') :
    Calls Tryd.prog 32 #[.func (.func 26) #[] #[x, y, z], .pointer (some ⟨Bn, 0, none⟩)] W fun e W' => e = .returned (.tuple #[]) ∧
      ((∃ G, J G (tells (ringL cs f k0)) W') ∨ (∃ pre, pre <+: tells (ringL cs f k0) ∧ Jx pre W')) := by
  have hl := hL.len
  have l1 := lt_of_cell hBn
  have l2 := hL.hd.lt
  have c2 := hL.hd.cell 2 _ rfl
  obtain ⟨L, hLL⟩ : ∃ L, ringL cs f k0 = L := ⟨_, rfl⟩
  rw [hLL]
  have hLn : L.length = k0 := by rw [← hLL, ringL_len]
  obtain ⟨i0, hi, hz0, hz1, hz2⟩ := info_parts u64Info
  have HLL := Lib.hid hLL
  have HLN := Lib.hid hLn
  have HY := Lib.hid hY
  have HR := Lib.hid hL
  have HBN := Lib.hid hBn
  have H0 := Lib.hid h0
  clear hLL hLn hY hL h0
  go_enter Tryd.func32, Tryd.ntmps32
  go_wp2_with fail
  go_loopw [3, 11] (fun v i wr => ∃ q : Nat, q ≤ k0 ∧ i = .int .i64 q ∧ wr.ownsRow W.heap.size 34 1 v q (u64c (L.take q)) ∧ New W wr) (fun _ i _ => k0 - (intOf i).toNat)
  case atStart => exact ⟨0, by omega, rfl, World.ownsRow_nil _ _ _ _, Fr.refl _ _⟩
  case round =>
    obtain ⟨q, hq, rfl, hown, hnw⟩ := hrel
    have hr := HR.out.keep hnw id id
    have hb := (hnw.cell l1 id 0).trans HBN.out
    have hsz := hnw.size
    have HOWN := Lib.hid hown
    have HRR := Lib.hid hr
    have HNW := Lib.hid hnw
    clear hown c2 hnw hBn
    by_cases hlt : q < k0
    · have HAT := Lib.hid (at_any b lb cs f k0 q wr hr (by omega))
      obtain ⟨x, hx⟩ : ∃ x, L[q]? = some x := ⟨L[q]'(by rw [HLN.out]; exact hlt), by simp⟩
      have hx' : cs.getD ((f + q) % cs.length) 0 = x := by
        have := hx
        rw [← HLL.out, ringL_get _ _ _ _ hlt] at this
        exact Option.some.inj this
      have HX := Lib.hid hx
      have HX' := Lib.hid hx'
      clear hr hx hx'
      go_wp2_with fail
      refine HAT.out.mono ?_
      rintro e w1 ⟨rfl, hn1⟩
      have h1 := HRR.out.keep hn1 id id
      obtain ⟨p, hp⟩ : ∃ p, (f + q) % cs.length = p := ⟨_, rfl⟩
      have hlp : p < cs.length := by rw [← hp]; exact Nat.mod_lt _ (by omega)
      have cp := at_map h1.cells (getD_get hlp)
      rw [show cs.getD p 0 = x by rw [← hp]; exact HX'.out] at cp
      rw [hp]
      have hown1 := own_keep HOWN.out hn1 (fun _ _ => id)
      have l3 := h1.cells.lt
      have HN1 := Lib.hid (HNW.out.trans hn1)
      have hsz1 := hn1.size
      clear hp h1 HAT HRR hn1
      go_wp2_with (at_builtin; refine wpList_append_own _ rfl (.tmp 14) (.tmp 20) 49 rfl W.heap.size 34 i0 _ 1 8 Tryd.underlying49 hi hz0 hz1 hz2 rfl (by decide) _ _ _ rfl (hown1.alloc _) ⟨w1.heap.size, 0, none⟩ 1 1 [.int .u64 x] rfl rfl (Arr.add (Arr.new _ _ _)) (by simp [Value.oneCell']) (by unfold maxLen; omega) (by omega) (by simp; omega) ?_; intro v' w2 hown' hgrow hnil)
      have hlt1 := hown1.lt
      have f2 : Fr (fun k => W.heap.size ≤ k) w1 w2 := ((Fr.refl _ w1).alloc _).grown hgrow (fun k hk _ => (hlt1 k hk).1)
      have HN2 := Lib.hid (HN1.out.then f2 (fun i hi e => by omega))
      clear f2 hgrow hnil hlt1
      go_roundw
      case rel => exact ⟨q + 1, by omega, by go_num, by rw [take_step HX.out, u64c_snoc]; exact hown', HN2.out⟩
      case measure => simp [intOf]; omega
    · have hown := HOWN.out
      rw [List.take_of_length_le (by rw [HLN.out]; omega)] at hown
      obtain ⟨bo, cb, rfl, hheld⟩ := held_own hown
      obtain rfl : k0 = q := by omega
      obtain ⟨G, hG, hat⟩ := hheld.at
      have HD := Lib.hid hat
      have HJ := Lib.hid (H0.out G wr hG HNW.out)
      clear hr hown hheld HOWN hat
      go_wp2_with fail
      go_loopw [25] (fun i wq => ∃ j : Nat, j ≤ k0 ∧ i = .int .i64 j ∧ HeldAt G wq bo L ∧ J G (tells (L.take j)) wq) (fun i _ => k0 - (intOf i).toNat)
      case atStart => exact ⟨0, by omega, rfl, HD.out, HJ.out⟩
      case round =>
        obtain ⟨j, hj, rfl, hheld, hjj⟩ := hrel
        clear HJ
        by_cases hlt2 : j < k0
        · obtain ⟨u, hx⟩ : ∃ x, L[j]? = some x := ⟨L[j]'(by rw [HLN.out]; exact hlt2), by simp⟩
          obtain ⟨cur, rfl, hg, hc⟩ := hheld j u hx
          have cg : wr.cell? ⟨G, j, none⟩ = some (.int .u64 u) := by rw [cell_of_block hg]; exact hc
          have lg := lt_of_block hg
          have HC := Lib.hid (HY.out G _ (j, u) _ hjj lg (by rw [tells_len, List.length_take, HLN.out]; show _ = j; omega) hlt2)
          have HX := Lib.hid hx
          have HHD := Lib.hid hheld
          clear hx hheld hjj hg hc
          go_wp2_with fail
          refine HC.out.mono ?_
          rintro e W3 (⟨rfl, hJ3, hk3⟩ | ⟨rfl, hJx3⟩)
          · have HH3 := Lib.hid (HHD.out.keep hk3)
            go_wp2
            go_roundw
            case rel => exact ⟨j + 1, by omega, by go_num, HH3.out, by rw [tells_step HX.out]; exact hJ3⟩
            case measure => simp [intOf]; omega
          · go_wp2
            refine bodyPost_ret (results_none rfl _ _ _) rfl ?_
            exact ⟨rfl, .inr ⟨_, (by rw [← tells_step HX.out]; exact tells_take _ _), hJx3⟩⟩
        · go_wp2
          go_end0
          exact ⟨rfl, .inl ⟨G, by rw [List.take_of_length_le (by rw [HLN.out]; omega)] at hjj; exact hjj⟩⟩

/-- The collector's variables: the slice's box, the bound's box, whether all places were right; what was gathered lies behind block G; what was there when it began is as it was. -/
structure Coll (w0 : World) (base ob vb mb : Nat) (most : Int) (G : Nat) (ps : List Nat) (w : World) : Prop where
  low : vb < base ∧ mb < base ∧ ob < base ∧ vb ≠ mb ∧ vb ≠ ob ∧ ob ≠ mb ∧ base ≤ G ∧ w0.heap.size ≤ vb ∧ w0.heap.size ≤ ob ∧ base ≤ w.heap.size
  box : ∃ v, w.cell? ⟨vb, 0, none⟩ = some v ∧ w.ownsRow (G + 1) 34 1 v ps.length (u64c ps)
  free : w.frozen? ⟨vb, 0, none⟩ = false
  bound : w.cell? ⟨mb, 0, none⟩ = some (.int .i64 most)
  okay : w.cell? ⟨ob, 0, none⟩ = some (.bool true)
  free2 : w.frozen? ⟨ob, 0, none⟩ = false
  new : New w0 w

theorem Coll.keep {w0 : World} {base ob vb mb : Nat} {most : Int} {G : Nat} {ps : List Nat} {w w' : World} (h : Coll w0 base ob vb mb most G ps w) (f : New w w') : Coll w0 base ob vb mb most G ps w' := by
  obtain ⟨h1, ⟨v, h2, h3⟩, h5, h6, h7, h8, h9⟩ := h
  have := f.size
  exact ⟨by omega, ⟨v, (f.cell (lt_of_cell h2) id 0).trans h2, own_keep h3 f (fun _ _ => id)⟩, (f.frozen (lt_of_cell h2) id 0).trans h5, (f.cell (lt_of_cell h6) id 0).trans h6, (f.cell (lt_of_cell h7) id 0).trans h7, (f.frozen (lt_of_cell h7) id 0).trans h8, h9.trans f⟩

set_option maxRecDepth 100000 in
set_option maxHeartbeats 1000000 in
theorem fn_any (w0 : World) (base ob vb mb : Nat) (most : Int) (G : Nat) (ps : List Nat) (x : Nat) (w : World) (h : Coll w0 base ob vb mb most G ps w) (hG : G < w.heap.size) (hf : ps.length < 1000000) :
    Calls Tryd.prog 26 #[.int .i64 ps.length, .int .u64 x, .pointer (some ⟨ob, 0, none⟩), .pointer (some ⟨vb, 0, none⟩), .pointer (some ⟨mb, 0, none⟩)] w fun e w' =>
      e = .returned (.bool (decide ((ps.length : Int) + 1 < most))) ∧ Coll w0 base ob vb mb most G (ps ++ [x]) w' ∧ w'.heap[G]? = w.heap[G]? := by
  obtain ⟨hlow, ⟨v, hv, hown⟩, hz, hm, ho, hzo, hn⟩ := h
  obtain ⟨n, hps⟩ : ∃ n, ps.length = n := ⟨_, rfl⟩
  obtain ⟨vo, vc, rfl, _⟩ := held_own hown
  have l1 := lt_of_cell hv
  have l2 := lt_of_cell hm
  have l3 := lt_of_cell ho
  have hGs : G + 1 ≤ w.heap.size := hG
  have n1 : vb ≠ ob := hlow.2.2.2.2.1
  have n2 : vb ≠ mb := hlow.2.2.2.1
  have n3 : ob ≠ mb := hlow.2.2.2.2.2.1
  rw [hps] at hv hown hf ⊢
  obtain ⟨i0, hi, hz0, hz1, hz2⟩ := info_parts u64Info
  obtain ⟨W1, hW1⟩ : ∃ W1, w.setCell ⟨ob, 0, none⟩ (.bool true) = W1 := ⟨_, rfl⟩
  have f1 : Fr (· = ob) w W1 := by rw [← hW1]; exact (Fr.refl (· = ob) _).setCell (fun _ => rfl) _
  have hv1 := (f1.cell l1 n1 0).trans hv
  have hm1 := (f1.cell l2 (Ne.symm n3) 0).trans hm
  have hz1' := (f1.frozen l1 n1 0).trans hz
  have ho1 : W1.cell? ⟨ob, 0, none⟩ = some (.bool true) := by rw [← hW1]; exact cell_set_eq _ ho
  have hzo1 : W1.frozen? ⟨ob, 0, none⟩ = false := by rw [← hW1, World.frozen?_setCell]; exact hzo
  have hown1 := own_keep hown f1 (fun k hk e => by omega)
  have hs1 := f1.size
  have HPS := Lib.hid hps
  have HW1 := Lib.hid hW1
  have HF1 := Lib.hid f1
  have HN := Lib.hid hn
  clear hps hW1 f1 hn
  have t1 : ((n : Int) == (n : Int)) = true := by simp
  go_enter Tryd.func26, Tryd.ntmps26
  go_upto_region 2 with fail
  rw [HW1.out]
  clear hv ho hm hown
  go_wp2_with (at_builtin; refine wpList_append_own _ rfl (.tmp 15) (.tmp 17) 49 rfl (G + 1) 34 i0 _ 1 8 Tryd.underlying49 hi hz0 hz1 hz2 rfl (by decide) _ _ _ rfl (hown1.alloc _) ⟨W1.heap.size, 0, none⟩ 1 1 [.int .u64 x] rfl rfl (Arr.add (Arr.new _ _ _)) (by simp [Value.oneCell']) (by unfold maxLen; omega) (by omega) (by simp; omega) ?_; intro v' w2 hown' hgrow hnil; obtain ⟨g', cap', rfl⟩ := ownsRow_succ hown'; have f2 : Fr (fun k => G < k) W1 w2 := ((Fr.refl _ W1).alloc _).grown hgrow (fun k hk _ => by have := hown1.lt k hk; omega); have hv2 := (f2.cell (lt_of_cell hv1) (by omega) 0).trans hv1; have hz2' := (f2.frozen (lt_of_cell hv1) (by omega) 0).trans hz1'; have hm2 := (f2.cell (lt_of_cell hm1) (by omega) 0).trans hm1; have ho2 := (f2.cell (lt_of_cell ho1) (by omega) 0).trans ho1; have hzo2 := (f2.frozen (lt_of_cell ho1) (by omega) 0).trans hzo1; have HO' := Lib.hid hown'; have F2 := Lib.hid f2; clear hnil hgrow hown' f2 hv1 hz1' hm1 ho1 hzo1 hown1)
  go_ret
  have f2 := F2.out
  have fall : Fr (fun k => k = ob ∨ k = vb ∨ G < k) w ((w2.setCell ⟨vb, 0, none⟩ (.slice (some ⟨g', 0, none⟩) (n + 1) cap'))) :=
    (((HF1.out.mono (fun _ _ h => .inl h)).trans (f2.mono (fun _ _ h => .inr (.inr h)))).setCell (fun _ => .inr (.inl rfl)) _)
  have hsz := fall.size
  refine ⟨rfl, ⟨?_, ⟨_, cell_set_eq _ hv2, ?_⟩, ?_, ?_, ?_, ?_, ?_⟩, ?_⟩
  · refine ⟨hlow.1, hlow.2.1, hlow.2.2.1, hlow.2.2.2.1, hlow.2.2.2.2.1, hlow.2.2.2.2.2.1, hlow.2.2.2.2.2.2.1, hlow.2.2.2.2.2.2.2.1, hlow.2.2.2.2.2.2.2.2.1, by omega⟩
  · rw [List.length_append, HPS.out, u64c_snoc]
    exact ownsRow_setCell_below HO'.out (by show vb < _; omega) _
  · rw [World.frozen?_setCell]; exact hz2'
  · rw [cell_set_ne _ (.inl n2)]; exact hm2
  · rw [cell_set_ne _ (.inl n1)]; exact ho2
  · rw [World.frozen?_setCell]; exact hzo2
  · exact HN.out.then fall (fun i hi h => by omega)
  · exact fall.block G (by omega) (by omega)

end Go.Proofs.YtgjogiddpfnamaaDoor
