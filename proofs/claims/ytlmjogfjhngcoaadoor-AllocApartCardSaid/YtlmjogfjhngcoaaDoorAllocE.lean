/- A block is given back where one begins. -/
import Derived.Test.YtlmjogfjhngcoaaDoorAllocD
namespace Go.Proofs.YtlmjogfjhngcoaaDoor
open Go.RowKit

theorem put_fin {w w2 W4 w5 w6 w7 : World} {ab mb cb wb g cap i : Nat} {v x : Value} {F T p : Int} {l : List Bk} {ws : List Nat} {b : Bk} {oe : Option (Int × Int)}
    (h : AM w ab mb cb wb v F T l ws) (hv : v.ownBlock = some g) (f2 : New w w2) (f4 : Fr (· = g) w2 W4) (hown : W4.ownsRow 0 43 3 (.slice (some ⟨g, 0, none⟩) (l.eraseIdx i).length cap) (l.eraseIdx i).length ((l.eraseIdx i).flatMap bC))
    (hb5 : w5.heap[ab]? = some (.cells #[.pointer (some ⟨mb, 0, none⟩), .int .i64 F, .int .i64 T, .slice (some ⟨g, 0, none⟩) (l.eraseIdx i).length cap] 74 (0, 0))) (f5 : Fr (· = ab) W4 w5)
    (hm6 : ∃ cs', MemRep w6 mb cb wb cs' (if oe = none then fill ws b.pos.toNat b.num.toNat 0 else ws) (cnt (if oe = none then fill ws b.pos.toNat b.num.toNat 0 else ws)) 0) (f6 : Fr (fun k => k = mb ∨ k = cb ∨ k = wb) w5 w6)
    (f7 : New w6 w7) (hx : Tells w7 x (inL alL p memL oe)) : PutIt w ab mb cb wb v F T l ws p i b oe (.returned x) w7 := by
  have hap := h.ap
  have hga := h.a.ne g hv
  have hgm := hap.2.2.2 g hv
  obtain ⟨cs', hm6⟩ := hm6
  have hl : (l.eraseIdx i).length ≤ 100000 := by rw [List.length_eraseIdx]; have := h.a.few; split <;> omega
  refine ⟨x, .slice (some ⟨g, 0, none⟩) (l.eraseIdx i).length cap, rfl, hx, ⟨⟨?_, ?_, h.a.fit.erase i, hl⟩, ⟨cs', hm6.keep f7 id id id⟩, hap.1, hap.2.1, hap.2.2.1, fun k hk => ?_⟩, ?_, by rw [hv]; rfl⟩
  · rw [f7.block ab (Nat.lt_of_lt_of_le (lt_of_block hb5) f6.size) id, f6.block ab (lt_of_block hb5) (by omega)]; exact hb5
  · exact own_kept (own_kept (own_kept hown f5 (fun k hk e => by
      obtain rfl : g = k := by simpa [Value.ownBlock] using hk
      exact hga e)) f6 (fun k hk e => by
      obtain rfl : g = k := by simpa [Value.ownBlock] using hk
      omega)) f7 (fun _ _ => id)
  · obtain rfl : g = k := by simpa [Value.ownBlock] using hk
    exact hgm
  · refine (((f2.mono (fun _ _ h => h.elim)).then f4 (fun k _ e => by subst e; exact .inr (.inr (.inr (.inr hv))))).then f5 (fun k _ e => .inl e)).then (f6.trans (f7.mono (fun _ _ h => h.elim))) (fun k _ e => ?_)
    rcases e with e | e | e
    · exact .inr (.inl e)
    · exact .inr (.inr (.inl e))
    · exact .inr (.inr (.inr (.inl e)))

set_option maxRecDepth 100000 in
set_option maxHeartbeats 8000000 in
theorem put_some (ab mb cb wb : Nat) (v : Value) (F T : Int) (l : List Bk) (ws : List Nat) (p : Int) (i : Nat) (b : Bk) (w : World) (h : AM w ab mb cb wb v F T l ws) (hb : l[i]? = some b) (hbp : b.pos = p) (hno : ∀ j x, j < i → l[j]? = some x → x.pos ≠ p) (hun : unmapErr ws b.pos b.num = none → b.num ≤ (cnt ws : Nat)) :
    Calls Tryd.prog 13 #[.pointer (some ⟨ab, 0, none⟩), .int .i64 p] w fun e w' => PutIt w ab mb cb wb v F T l ws p i b (unmapErr ws b.pos b.num) e w' := by
  have c3 : w.cell? ⟨ab, 3, none⟩ = some v := cell_of_block h.a.hd 3
  have la := lt_of_block h.a.hd
  have hfew := h.a.few
  obtain ⟨ao, ca, rfl, _⟩ := owned_form h.a.own
  have hcap := doc_cap h.a.own
  have hat := fun (k : Nat) (b : Bk) (hb : l[k]? = some b) => flat_at bC 3 bC_len h.a.own hb (by omega)
  obtain ⟨g, rfl, hg, _⟩ := hat i b hb
  have hroom : Room w g ca l := Room.of h.a.own
  have hga := h.a.ne g rfl
  have hil := (List.getElem?_eq_some_iff.1 hb).1
  have hfb := h.a.fit.inn b (List.mem_of_getElem? hb)
  have hlo := h.a.fit.lo
  obtain ⟨i0, hi0, hz0, hz1, hz2⟩ := info_parts blkInfo
  obtain ⟨cs, hm⟩ := h.m
  have hap := h.ap
  have hUN := fun w' (hm' : MemRep w' mb cb wb cs ws (cnt ws) 0) => unmap_any mb cb wb cs ws (cnt ws) 0 b.pos b.num w' hm' (by omega) hun
  have huc := fun (he : unmapErr ws b.pos b.num = none) => (unmap_cnt he).1
  obtain ⟨N, hN⟩ : ∃ N, l.length = N := ⟨_, rfl⟩
  rw [hN] at c3 hfew hcap hil
  have H := Lib.hid h
  have HAT := Lib.hid hat
  have HN := Lib.hid hN
  have HNO := Lib.hid hno
  have HB := Lib.hid hb
  have HROOM := Lib.hid hroom
  have HM := Lib.hid hm
  have HUN := Lib.hid hUN
  have HUC := Lib.hid huc
  have HAP := Lib.hid hap
  have HHD := Lib.hid h.a.hd
  have HBP := Lib.hid hbp
  generalize hoe : unmapErr ws b.pos b.num = oe at HUN HUC ⊢
  clear h hb hbp hno hat hN hroom hm hUN huc hap hoe hun
  go_enter Tryd.func13, Tryd.ntmps13
  go_wp2_with fail
  go_loopw [13] (fun j wr => ∃ k : Nat, k ≤ i ∧ j = .int .i64 k ∧ New w wr) (fun j _ => N - (intOf j).toNat)
  case atStart => exact ⟨0, by omega, rfl, Fr.refl _ _⟩
  case round =>
    obtain ⟨k, hk, rfl, hn⟩ := hrel
    have HNW := Lib.hid hn
    by_cases hlt : k < i
    · obtain ⟨b2, hb⟩ : ∃ b, l[k]? = some b := ⟨l[k]'(by rw [HN.out]; omega), by simp⟩
      obtain ⟨g2, eg, hg2, hc⟩ := HAT.out k b2 hb
      obtain rfl : g = g2 := by simpa using eg
      have x0 : wr.cell? ⟨g, k * 3, none⟩ = some (.int .i64 b2.pos) := (hn.cell hg id _).trans (hc 0 _ rfl)
      have x1 : wr.cell? ⟨g, k * 3 + 1, none⟩ = some (.int .i64 b2.num) := (hn.cell hg id _).trans (hc 1 _ rfl)
      have x2 : wr.cell? ⟨g, k * 3 + 2, none⟩ = some (.int .i64 b2.wid) := (hn.cell hg id _).trans (hc 2 _ rfl)
      have t1 : (b2.pos != p) = true := by rw [bne_iff_ne]; exact HNO.out k b2 hlt hb
      have q1 : (0 : Int) ≤ (k : Int) := by omega
      have q2 : (k : Int) < (N : Int) := by omega
      clear hb hc hn eg
      go_wp2_with fail
      go_roundw
      case rel => exact ⟨k + 1, by omega, by go_num, HNW.out.alloc _⟩
      case measure => simp [intOf]; omega
    · obtain rfl : i = k := by omega
      obtain ⟨g2, eg, hg2, hc⟩ := HAT.out i b HB.out
      obtain rfl : g = g2 := by simpa using eg
      have x0 : wr.cell? ⟨g, i * 3, none⟩ = some (.int .i64 b.pos) := (hn.cell hg id _).trans (hc 0 _ rfl)
      have x1 : wr.cell? ⟨g, i * 3 + 1, none⟩ = some (.int .i64 b.num) := (hn.cell hg id _).trans (hc 1 _ rfl)
      have x2 : wr.cell? ⟨g, i * 3 + 2, none⟩ = some (.int .i64 b.wid) := (hn.cell hg id _).trans (hc 2 _ rfl)
      have t1 : (b.pos != p) = false := by rw [bne_eq_false_iff_eq]; exact HBP.out
      have q1 : (0 : Int) ≤ (i : Int) := by omega
      have q2 : (i : Int) < (N : Int) := by omega
      clear hc hn eg
      go_wp2_with fail
      obtain ⟨W2, hW2⟩ : ∃ W2, (wr.alloc (.cells #[.int .i64 b.pos, .int .i64 b.num, .int .i64 b.wid] 43)).drew = W2 := ⟨_, rfl⟩
      have hx2 : Arr W2 wr.heap.size [.int .i64 b.pos, .int .i64 b.num, .int .i64 b.wid] := by rw [← hW2]; exact (Arr.new _ _ _).drew
      have hn2 : New w W2 := by rw [← hW2]; exact (HNW.out.alloc _).drew
      obtain ⟨xb, hxb⟩ : ∃ xb, wr.heap.size = xb := ⟨_, rfl⟩
      have hxg : xb ≠ g := by have := HNW.out.size; omega
      have hxw : w.heap.size ≤ xb := by have := HNW.out.size; omega
      have hxa : xb ≠ ab := by have := HNW.out.size; omega
      rw [hxb] at hx2 ⊢
      refine heldStart (fun _ => True) (by kernel_rfl) ?_
      rw [hW2]
      have s3 : W2.cell? ⟨ab, 3, none⟩ = some (.slice (some ⟨g, 0, none⟩) N ca) := by rw [hn2.cell la id]; exact c3
      have sf : W2.frozen? ⟨ab, 3, none⟩ = false := by rw [hn2.frozen la id]; exact free_of_block HHD.out 3
      have HX2 := Lib.hid hx2
      have HN2 := Lib.hid hn2
      have HOWN := Lib.hid (own_kept (HROOM.out.takeOwn (i := i) (by rw [HN.out]; omega)) hn2 (fun _ _ => id))
      have hnl : ((l.drop (i + 1)).flatMap bC).length = (N - (i + 1)) * 3 := by rw [len_flatMap bC 3 bC_len, List.length_drop, HN.out]
      have HNL := Lib.hid hnl
      have HSRC := Lib.hid (show ∀ (j : Nat) (u : Value), ((l.drop (i + 1)).flatMap bC)[j]? = some u → W2.cell? ⟨g, (i + 1) * 3 + j, none⟩ = some u from by
        intro j u hj
        obtain ⟨cur, k1, k2, k3⟩ := HROOM.out.ex
        have hjl := (List.getElem?_eq_some_iff.1 hj).1
        rw [hnl] at hjl
        rw [hn2.cell hg id, cell_of_block k1]
        have e1 : (cur.toList.take (l.length * 3))[(i + 1) * 3 + j]? = some u := by rw [k3, ← hj, ← flat_drop' bC 3 bC_len, List.getElem?_drop]
        rw [List.getElem?_take_of_lt (by rw [HN.out]; omega), Array.getElem?_toList] at e1
        exact e1)
      have hle : l.eraseIdx i = l.take i ++ l.drop (i + 1) := (erase_split l i).symm
      have hlen : (l.eraseIdx i).length = i + (N - (i + 1)) := by rw [hle, List.length_append, List.length_take, List.length_drop, HN.out]; omega
      have HLE := Lib.hid hle
      have HLEN := Lib.hid hlen
      clear hW2 hxb hx2 hn2 hnl hle hlen x0 x1 x2
      have t1' : IntKind.i64.wrap ((i : Int) + 1) = (i : Int) + 1 := by rw [IntKind.wrap_i64]; omega
      have t2 : ((i : Int) + 1).toNat = i + 1 := by omega
      have t3 : (0 : Int) ≤ (i : Int) + 1 := by omega
      have t4 : (i : Int) + 1 ≤ (N : Int) := by omega
      have t5 : (i : Int) ≤ (ca : Int) := by omega
      have t6 : (i : Int) ≤ (N : Int) := by omega
      have t8 : (i : Int) ≤ (i : Int) + 1 := by omega
      by_cases hcc : ca = i + 1
      · obtain rfl : N = i + 1 := by omega
        subst hcc
        refine wpAnyH_take (i := 0) (v := ?_) rfl (by kernel_rfl) (by kernel_rfl) (by kernel_rfl) (fun _ _ _ h => h) (Or.inl ⟨by rfl, ?_⟩) trivial ?_
        rotate_left
        · intro w _; go_simp; rfl
        go_simp
        refine wpAnyH_take (i := 1) (v := ?_) rfl (by kernel_rfl) (by kernel_rfl) (by kernel_rfl) (fun _ _ _ h => h) (Or.inl ⟨by rfl, ?_⟩) trivial ?_
        rotate_left
        · intro w _; go_simp; rfl
        go_simp
        refine wpAnyH_take (i := 2) (v := ?_) rfl (by kernel_rfl) (by kernel_rfl) (by kernel_rfl) (fun _ _ _ h => h) (Or.inl ⟨by rfl, ?_⟩) trivial ?_
        rotate_left
        · intro w _; go_simp; rfl
        go_simp
        refine wpAnyH_take (i := 3) (v := ?_) rfl (by kernel_rfl) (by kernel_rfl) (by kernel_rfl) (fun _ _ _ h => h) (Or.inl ⟨by rfl, ?_⟩) trivial ?_
        rotate_left
        · intro w _; go_simp; rfl
        go_simp
        refine wpAnyH_take (i := 5) (v := ?_) rfl (by kernel_rfl) (by kernel_rfl) (by kernel_rfl) (fun _ _ _ h => h) (Or.inl ⟨by rfl, ?_⟩) trivial ?_
        rotate_left
        · intro w _; go_simp; rfl
        go_simp
        refine wpAnyH_take (i := 7) (v := ?_) rfl (by kernel_rfl) (by kernel_rfl) (by kernel_rfl) (fun _ _ _ h => h) (Or.inl ⟨by rfl, ?_⟩) trivial ?_
        rotate_left
        · intro w _; go_simp; rfl
        go_simp
        refine wpAnyH_take (i := 8) (v := ?_) rfl (by kernel_rfl) (by kernel_rfl) (by kernel_rfl) (fun _ _ _ h => h) (Or.inl ⟨by rfl, ?_⟩) trivial ?_
        rotate_left
        · intro w _; go_simp; rfl
        go_simp
        refine wpAnyH_take (i := 9) (v := ?_) rfl (by kernel_rfl) (by kernel_rfl) (by kernel_rfl) (fun _ _ _ h => h) (Or.inl ⟨by rfl, ?_⟩) trivial ?_
        rotate_left
        · intro w _; go_simp; rfl
        go_simp
        refine wpAnyH_take (i := 11) (v := ?_) rfl (by kernel_rfl) (by kernel_rfl) (by kernel_rfl) (fun _ _ _ h => h) (Or.inl ⟨by rfl, ?_⟩) trivial ?_
        rotate_left
        · intro w _; go_simp; rfl
        go_simp
        refine wpAnyH_take (i := 12) (v := ?_) rfl (by kernel_rfl) (by kernel_rfl) (by kernel_rfl) (fun _ _ _ h => h) (Or.inl ⟨by rfl, ?_⟩) trivial ?_
        rotate_left
        · intro w _; go_simp; rfl
        go_simp
        refine heldEither (i := 4) (j := 10) (by kernel_rfl) rfl rfl (by rfl) (by rfl) (fun K hK => ?_) (fun K hK => ?_)
        · go_simp
          refine hK.out _ _ trivial ?_
          clear hK K
          refine wpAnyH_take (i := 6) (v := ?_) rfl (by kernel_rfl) (by kernel_rfl) (by kernel_rfl) (fun _ _ _ h => h) (Or.inl ⟨by rfl, ?_⟩) trivial ?_
          rotate_left
          · intro w _; go_simp; rfl
          go_simp
          refine heldOne (i := 10) (by kernel_rfl) rfl (by rfl) (fun K hK => ?_)
          go_simp
          refine hK.out _ _ trivial ?_
          clear hK K
          refine wpAnyH_take (i := 13) (v := ?_) rfl (by kernel_rfl) (by kernel_rfl) (by kernel_rfl) (fun _ _ _ h => h) (Or.inl ⟨by rfl, ?_⟩) trivial ?_
          rotate_left
          · intro w _; go_simp; rfl
          go_simp
          refine heldOne (i := 14) (by kernel_rfl) rfl (by rfl) (fun K hK => ?_)
          refine wp_append_own_spare _ (.tmp 28) (.tmp 35) 40 rfl 0 43 i0 3 Tryd.underlying40 hi0 hz1 g i (i + 1) ((l.take i).flatMap bC) rfl HOWN.out ⟨g, 0, none⟩ 0 _ ((l.drop (i + 1)).flatMap bC) rfl (by have := HNL.out; omega) (fun j u hj => (by have := (List.getElem?_eq_some_iff.1 hj).1; rw [HNL.out] at this; omega)) (bC_one _) (by omega) ?_
          intro w4 hown4 hgrow4
          have f4 : Fr (· = g) W2 w4 := (Fr.refl _ _).grown hgrow4 (fun k hk _ => by simpa using hk.symm)
          have HF4 := Lib.hid f4
          have HO4 := Lib.hid (show w4.ownsRow 0 43 3 (.slice (some ⟨g, 0, none⟩) (l.eraseIdx i).length (i + 1)) (l.eraseIdx i).length ((l.eraseIdx i).flatMap bC) by rw [HLE.out, List.flatMap_append, ← HLE.out, HLEN.out]; (try simp only [Nat.sub_self]); exact hown4)
          have z3 : w4.cell? ⟨ab, 3, none⟩ = some (.slice (some ⟨g, 0, none⟩) _ (i + 1)) := (f4.cell (Nat.lt_of_lt_of_le la HN2.out.size) (fun e => hga e.symm) _).trans s3
          have zf : w4.frozen? ⟨ab, 3, none⟩ = false := (f4.frozen (Nat.lt_of_lt_of_le la HN2.out.size) (fun e => hga e.symm) _).trans sf
          refine hK.out _ _ trivial ?_
          clear hK K hown4 hgrow4
          refine wpAnyH_take (i := 15) (v := ?_) rfl (by kernel_rfl) (by kernel_rfl) (by kernel_rfl) (fun _ _ _ h => h) (Or.inl ⟨by rfl, ?_⟩) trivial ?_
          rotate_left
          · intro w _; go_simp; rfl
          go_simp
          refine wpAnyH_take (i := 16) (v := ?_) rfl (by kernel_rfl) (by kernel_rfl) (by kernel_rfl) (fun _ _ _ h => h) (Or.inl ⟨by rfl, ?_⟩) trivial ?_
          rotate_left
          · intro w _; go_simp; rfl
          go_simp
          refine heldOne (i := 17) (by kernel_rfl) rfl (by rfl) (fun K hK => ?_)
          go_simp
          refine hK.out _ _ trivial ?_
          clear hK K
          refine wpAnyH_done (by kernel_rfl) ?_ _
          have hb4 : w4.heap[ab]? = some (.cells #[.pointer (some ⟨mb, 0, none⟩), .int .i64 F, .int .i64 T, .slice (some ⟨g, 0, none⟩) l.length (i + 1)] 74 (0, 0)) := by rw [f4.block ab (Nat.lt_of_lt_of_le la HN2.out.size) (fun e => hga e.symm), HN2.out.block ab la id]; exact HHD.out
          obtain ⟨W5, hW5⟩ : ∃ W5, (w4.setCell ⟨ab, 3, none⟩ (.slice (some ⟨g, 0, none⟩) i (i + 1))).drew = W5 := ⟨_, rfl⟩
          have hb5 : W5.heap[ab]? = some (.cells #[.pointer (some ⟨mb, 0, none⟩), .int .i64 F, .int .i64 T, .slice (some ⟨g, 0, none⟩) i (i + 1)] 74 (0, 0)) := by rw [← hW5]; exact block_setCell hb4 _
          have f5 : Fr (· = ab) w4 W5 := by rw [← hW5]; exact (Fr.setCell (S := (· = ab)) (Fr.refl _ _) (fun _ => by rfl) _).drew
          have hx5 := (HX2.out.keep f4 hxg).keep f5 hxa
          go_wp2_with fail
          refine heldStart (fun W' => W'.cell? ⟨ab, 0, none⟩ = some (.pointer (some ⟨mb, 0, none⟩)) ∧ W'.cell? ⟨xb, 0, none⟩ = some (.int .i64 b.pos) ∧ W'.cell? ⟨xb, 1, none⟩ = some (.int .i64 b.num)) (by kernel_rfl) ?_
          rw [hW5]
          have s5 : W5.cell? ⟨ab, 0, none⟩ = some (.pointer (some ⟨mb, 0, none⟩)) ∧ W5.cell? ⟨xb, 0, none⟩ = some (.int .i64 b.pos) ∧ W5.cell? ⟨xb, 1, none⟩ = some (.int .i64 b.num) := ⟨cell_of_block hb5 0, hx5.cell 0 _ rfl, hx5.cell 1 _ rfl⟩
          have HB5 := Lib.hid hb5
          have F5 := Lib.hid f5
          have lx5 := hx5.lt
          have hm5 := ((HM.out.keep HN2.out id id id).keep f4 (fun e => (HAP.out.2.2.2 g rfl).1 e.symm) (fun e => (HAP.out.2.2.2 g rfl).2.1 e.symm) (fun e => (HAP.out.2.2.2 g rfl).2.2 e.symm)).keep f5 (fun e => HAP.out.1 e.symm) (fun e => HAP.out.2.1 e.symm) (fun e => HAP.out.2.2.1 e.symm)
          have hxm : xb ≠ mb ∧ xb ≠ cb ∧ xb ≠ wb := by have := HM.out.hd.lt; have := HM.out.cells.lt; have := HM.out.widths.lt; omega
          have HUN5 := Lib.hid (HUN.out W5 hm5)
          clear hW5 hb4 hb5 f4 f5 hx5 hm5 z3 zf s3 sf
          refine wpAnyH_take (i := 0) (v := ?_) rfl (by kernel_rfl) (by kernel_rfl) (by kernel_rfl) (fun _ _ _ h => h) (Or.inl ⟨by rfl, ?_⟩) s5 ?_
          rotate_left
          · intro w hSw; first | (obtain ⟨s1, s2, s3, s4, s5, s6, s7, s8⟩ := hSw; go_simp; rfl) | (obtain ⟨s1, s2, s3, s4, s5, s6, s7⟩ := hSw; go_simp; rfl) | (obtain ⟨s1, s2, s3⟩ := hSw; go_simp; rfl) | (obtain ⟨s1, s2⟩ := hSw; go_simp; rfl) | (have s1 := hSw; go_simp; rfl)
          go_simp
          refine wpAnyH_take (i := 1) (v := ?_) rfl (by kernel_rfl) (by kernel_rfl) (by kernel_rfl) (fun _ _ _ h => h) (Or.inl ⟨by rfl, ?_⟩) s5 ?_
          rotate_left
          · intro w hSw; first | (obtain ⟨s1, s2, s3, s4, s5, s6, s7, s8⟩ := hSw; go_simp; rfl) | (obtain ⟨s1, s2, s3, s4, s5, s6, s7⟩ := hSw; go_simp; rfl) | (obtain ⟨s1, s2, s3⟩ := hSw; go_simp; rfl) | (obtain ⟨s1, s2⟩ := hSw; go_simp; rfl) | (have s1 := hSw; go_simp; rfl)
          go_simp
          refine wpAnyH_take (i := 2) (v := ?_) rfl (by kernel_rfl) (by kernel_rfl) (by kernel_rfl) (fun _ _ _ h => h) (Or.inl ⟨by rfl, ?_⟩) s5 ?_
          rotate_left
          · intro w hSw; first | (obtain ⟨s1, s2, s3, s4, s5, s6, s7, s8⟩ := hSw; go_simp; rfl) | (obtain ⟨s1, s2, s3, s4, s5, s6, s7⟩ := hSw; go_simp; rfl) | (obtain ⟨s1, s2, s3⟩ := hSw; go_simp; rfl) | (obtain ⟨s1, s2⟩ := hSw; go_simp; rfl) | (have s1 := hSw; go_simp; rfl)
          go_simp
          refine wpAnyH_take (i := 3) (v := ?_) rfl (by kernel_rfl) (by kernel_rfl) (by kernel_rfl) (fun _ _ _ h => h) (Or.inl ⟨by rfl, ?_⟩) s5 ?_
          rotate_left
          · intro w hSw; first | (obtain ⟨s1, s2, s3, s4, s5, s6, s7, s8⟩ := hSw; go_simp; rfl) | (obtain ⟨s1, s2, s3, s4, s5, s6, s7⟩ := hSw; go_simp; rfl) | (obtain ⟨s1, s2, s3⟩ := hSw; go_simp; rfl) | (obtain ⟨s1, s2⟩ := hSw; go_simp; rfl) | (have s1 := hSw; go_simp; rfl)
          go_simp
          refine wpAnyH_take (i := 4) (v := ?_) rfl (by kernel_rfl) (by kernel_rfl) (by kernel_rfl) (fun _ _ _ h => h) (Or.inl ⟨by rfl, ?_⟩) s5 ?_
          rotate_left
          · intro w hSw; first | (obtain ⟨s1, s2, s3, s4, s5, s6, s7, s8⟩ := hSw; go_simp; rfl) | (obtain ⟨s1, s2, s3, s4, s5, s6, s7⟩ := hSw; go_simp; rfl) | (obtain ⟨s1, s2, s3⟩ := hSw; go_simp; rfl) | (obtain ⟨s1, s2⟩ := hSw; go_simp; rfl) | (have s1 := hSw; go_simp; rfl)
          go_simp
          refine wpAnyH_take (i := 5) (v := ?_) rfl (by kernel_rfl) (by kernel_rfl) (by kernel_rfl) (fun _ _ _ h => h) (Or.inl ⟨by rfl, ?_⟩) s5 ?_
          rotate_left
          · intro w hSw; first | (obtain ⟨s1, s2, s3, s4, s5, s6, s7, s8⟩ := hSw; go_simp; rfl) | (obtain ⟨s1, s2, s3, s4, s5, s6, s7⟩ := hSw; go_simp; rfl) | (obtain ⟨s1, s2, s3⟩ := hSw; go_simp; rfl) | (obtain ⟨s1, s2⟩ := hSw; go_simp; rfl) | (have s1 := hSw; go_simp; rfl)
          go_simp
          refine wpAnyH_take (i := 6) (v := ?_) rfl (by kernel_rfl) (by kernel_rfl) (by kernel_rfl) (fun _ _ _ h => h) (Or.inl ⟨by rfl, ?_⟩) s5 ?_
          rotate_left
          · intro w hSw; first | (obtain ⟨s1, s2, s3, s4, s5, s6, s7, s8⟩ := hSw; go_simp; rfl) | (obtain ⟨s1, s2, s3, s4, s5, s6, s7⟩ := hSw; go_simp; rfl) | (obtain ⟨s1, s2, s3⟩ := hSw; go_simp; rfl) | (obtain ⟨s1, s2⟩ := hSw; go_simp; rfl) | (have s1 := hSw; go_simp; rfl)
          go_simp
          refine wpAnyH_take (i := 7) (v := ?_) rfl (by kernel_rfl) (by kernel_rfl) (by kernel_rfl) (fun _ _ _ h => h) (Or.inl ⟨by rfl, ?_⟩) s5 ?_
          rotate_left
          · intro w hSw; first | (obtain ⟨s1, s2, s3, s4, s5, s6, s7, s8⟩ := hSw; go_simp; rfl) | (obtain ⟨s1, s2, s3, s4, s5, s6, s7⟩ := hSw; go_simp; rfl) | (obtain ⟨s1, s2, s3⟩ := hSw; go_simp; rfl) | (obtain ⟨s1, s2⟩ := hSw; go_simp; rfl) | (have s1 := hSw; go_simp; rfl)
          go_simp
          refine heldOne (i := 8) (by kernel_rfl) rfl (by rfl) (fun K hK => ?_)
          go_simp
          refine HUN5.out.mono ?_
          rintro e w6 ⟨x, rfl, hx, hm6, hf6⟩
          have la5 := lt_of_block HB5.out
          have s6 : w6.cell? ⟨ab, 0, none⟩ = some (.pointer (some ⟨mb, 0, none⟩)) ∧ w6.cell? ⟨xb, 0, none⟩ = some (.int .i64 b.pos) ∧ w6.cell? ⟨xb, 1, none⟩ = some (.int .i64 b.num) :=
            ⟨(hf6.cell la5 (fun e => by have := HAP.out; have := e.2; omega) _).trans s5.1, (hf6.cell lx5 (fun e => by have := e.2; omega) _).trans s5.2.1, (hf6.cell lx5 (fun e => by have := e.2; omega) _).trans s5.2.2⟩
          have HX := Lib.hid hx
          have F6 := Lib.hid (show Fr (fun k => k = mb ∨ k = cb ∨ k = wb) W5 w6 from hf6.mono (fun _ _ e => e.2))
          refine hK.out _ _ s6 ?_
          clear hK K hx hf6 s5
          refine wpAnyH_take (i := 9) (v := ?_) rfl (by kernel_rfl) (by kernel_rfl) (by kernel_rfl) (fun _ _ _ h => h) (Or.inl ⟨by rfl, ?_⟩) s6 ?_
          rotate_left
          · intro w hSw; first | (obtain ⟨s1, s2, s3, s4, s5, s6, s7, s8⟩ := hSw; go_simp; rfl) | (obtain ⟨s1, s2, s3, s4, s5, s6, s7⟩ := hSw; go_simp; rfl) | (obtain ⟨s1, s2, s3⟩ := hSw; go_simp; rfl) | (obtain ⟨s1, s2⟩ := hSw; go_simp; rfl) | (have s1 := hSw; go_simp; rfl)
          go_simp
          refine wpAnyH_done (by kernel_rfl) ?_ _
          clear s6
          have HLEN2 := Lib.hid (show (i : Nat) = (l.eraseIdx i).length by rw [HLEN.out]; (try omega))
          cases oe with
          | none =>
            obtain rfl : x = .nilIface := HX.out
            simp only [if_true] at hm6
            obtain ⟨th', hm6, hth⟩ := hm6
            have hth2 : th' = cnt (fill ws b.pos.toNat b.num.toNat 0) := by have := HUC.out rfl; omega
            subst hth2
            have HM6 := Lib.hid hm6
            clear hm6 hth
            go_wp2
            go_ret
            exact put_fin H.out rfl HN2.out HF4.out HO4.out (by rw [← HLEN2.out]; exact HB5.out) F5.out ⟨_, by rw [if_pos rfl]; exact HM6.out⟩ F6.out (Fr.refl _ _) rfl
          | some o =>
            obtain ⟨qp, qk⟩ := o
            simp only [reduceCtorEq, if_false] at hm6
            have HM6 := Lib.hid hm6
            obtain ⟨eb, rfl⟩ := Says.at HX.out
            clear hm6
            go_wp2_with fail
            refine (afail_in p _ memL qp qk w6 HX.out).mono ?_
            rintro e w7 ⟨x7, rfl, hx7, hn7⟩
            have HX7 := Lib.hid hx7
            have HN7 := Lib.hid hn7
            clear hx7 hn7
            go_wp2
            go_ret
            exact put_fin H.out rfl HN2.out HF4.out HO4.out (by rw [← HLEN2.out]; exact HB5.out) F5.out ⟨_, by rw [if_neg (by simp)]; exact HM6.out⟩ F6.out HN7.out HX7.out
        · go_simp
          refine hK.out _ _ trivial ?_
          clear hK K
          refine wpAnyH_take (i := 13) (v := ?_) rfl (by kernel_rfl) (by kernel_rfl) (by kernel_rfl) (fun _ _ _ h => h) (Or.inl ⟨by rfl, ?_⟩) trivial ?_
          rotate_left
          · intro w _; go_simp; rfl
          go_simp
          refine heldOne (i := 4) (by kernel_rfl) rfl (by rfl) (fun K hK => ?_)
          go_simp
          refine hK.out _ _ trivial ?_
          clear hK K
          refine wpAnyH_take (i := 6) (v := ?_) rfl (by kernel_rfl) (by kernel_rfl) (by kernel_rfl) (fun _ _ _ h => h) (Or.inl ⟨by rfl, ?_⟩) trivial ?_
          rotate_left
          · intro w _; go_simp; rfl
          go_simp
          refine heldOne (i := 14) (by kernel_rfl) rfl (by rfl) (fun K hK => ?_)
          refine wp_append_own_spare _ (.tmp 28) (.tmp 35) 40 rfl 0 43 i0 3 Tryd.underlying40 hi0 hz1 g i (i + 1) ((l.take i).flatMap bC) rfl HOWN.out ⟨g, 0, none⟩ 0 _ ((l.drop (i + 1)).flatMap bC) rfl (by have := HNL.out; omega) (fun j u hj => (by have := (List.getElem?_eq_some_iff.1 hj).1; rw [HNL.out] at this; omega)) (bC_one _) (by omega) ?_
          intro w4 hown4 hgrow4
          have f4 : Fr (· = g) W2 w4 := (Fr.refl _ _).grown hgrow4 (fun k hk _ => by simpa using hk.symm)
          have HF4 := Lib.hid f4
          have HO4 := Lib.hid (show w4.ownsRow 0 43 3 (.slice (some ⟨g, 0, none⟩) (l.eraseIdx i).length (i + 1)) (l.eraseIdx i).length ((l.eraseIdx i).flatMap bC) by rw [HLE.out, List.flatMap_append, ← HLE.out, HLEN.out]; (try simp only [Nat.sub_self]); exact hown4)
          have z3 : w4.cell? ⟨ab, 3, none⟩ = some (.slice (some ⟨g, 0, none⟩) _ (i + 1)) := (f4.cell (Nat.lt_of_lt_of_le la HN2.out.size) (fun e => hga e.symm) _).trans s3
          have zf : w4.frozen? ⟨ab, 3, none⟩ = false := (f4.frozen (Nat.lt_of_lt_of_le la HN2.out.size) (fun e => hga e.symm) _).trans sf
          refine hK.out _ _ trivial ?_
          clear hK K hown4 hgrow4
          refine wpAnyH_take (i := 15) (v := ?_) rfl (by kernel_rfl) (by kernel_rfl) (by kernel_rfl) (fun _ _ _ h => h) (Or.inl ⟨by rfl, ?_⟩) trivial ?_
          rotate_left
          · intro w _; go_simp; rfl
          go_simp
          refine wpAnyH_take (i := 16) (v := ?_) rfl (by kernel_rfl) (by kernel_rfl) (by kernel_rfl) (fun _ _ _ h => h) (Or.inl ⟨by rfl, ?_⟩) trivial ?_
          rotate_left
          · intro w _; go_simp; rfl
          go_simp
          refine heldOne (i := 17) (by kernel_rfl) rfl (by rfl) (fun K hK => ?_)
          go_simp
          refine hK.out _ _ trivial ?_
          clear hK K
          refine wpAnyH_done (by kernel_rfl) ?_ _
          have hb4 : w4.heap[ab]? = some (.cells #[.pointer (some ⟨mb, 0, none⟩), .int .i64 F, .int .i64 T, .slice (some ⟨g, 0, none⟩) l.length (i + 1)] 74 (0, 0)) := by rw [f4.block ab (Nat.lt_of_lt_of_le la HN2.out.size) (fun e => hga e.symm), HN2.out.block ab la id]; exact HHD.out
          obtain ⟨W5, hW5⟩ : ∃ W5, (w4.setCell ⟨ab, 3, none⟩ (.slice (some ⟨g, 0, none⟩) i (i + 1))).drew = W5 := ⟨_, rfl⟩
          have hb5 : W5.heap[ab]? = some (.cells #[.pointer (some ⟨mb, 0, none⟩), .int .i64 F, .int .i64 T, .slice (some ⟨g, 0, none⟩) i (i + 1)] 74 (0, 0)) := by rw [← hW5]; exact block_setCell hb4 _
          have f5 : Fr (· = ab) w4 W5 := by rw [← hW5]; exact (Fr.setCell (S := (· = ab)) (Fr.refl _ _) (fun _ => by rfl) _).drew
          have hx5 := (HX2.out.keep f4 hxg).keep f5 hxa
          go_wp2_with fail
          refine heldStart (fun W' => W'.cell? ⟨ab, 0, none⟩ = some (.pointer (some ⟨mb, 0, none⟩)) ∧ W'.cell? ⟨xb, 0, none⟩ = some (.int .i64 b.pos) ∧ W'.cell? ⟨xb, 1, none⟩ = some (.int .i64 b.num)) (by kernel_rfl) ?_
          rw [hW5]
          have s5 : W5.cell? ⟨ab, 0, none⟩ = some (.pointer (some ⟨mb, 0, none⟩)) ∧ W5.cell? ⟨xb, 0, none⟩ = some (.int .i64 b.pos) ∧ W5.cell? ⟨xb, 1, none⟩ = some (.int .i64 b.num) := ⟨cell_of_block hb5 0, hx5.cell 0 _ rfl, hx5.cell 1 _ rfl⟩
          have HB5 := Lib.hid hb5
          have F5 := Lib.hid f5
          have lx5 := hx5.lt
          have hm5 := ((HM.out.keep HN2.out id id id).keep f4 (fun e => (HAP.out.2.2.2 g rfl).1 e.symm) (fun e => (HAP.out.2.2.2 g rfl).2.1 e.symm) (fun e => (HAP.out.2.2.2 g rfl).2.2 e.symm)).keep f5 (fun e => HAP.out.1 e.symm) (fun e => HAP.out.2.1 e.symm) (fun e => HAP.out.2.2.1 e.symm)
          have hxm : xb ≠ mb ∧ xb ≠ cb ∧ xb ≠ wb := by have := HM.out.hd.lt; have := HM.out.cells.lt; have := HM.out.widths.lt; omega
          have HUN5 := Lib.hid (HUN.out W5 hm5)
          clear hW5 hb4 hb5 f4 f5 hx5 hm5 z3 zf s3 sf
          refine wpAnyH_take (i := 0) (v := ?_) rfl (by kernel_rfl) (by kernel_rfl) (by kernel_rfl) (fun _ _ _ h => h) (Or.inl ⟨by rfl, ?_⟩) s5 ?_
          rotate_left
          · intro w hSw; first | (obtain ⟨s1, s2, s3, s4, s5, s6, s7, s8⟩ := hSw; go_simp; rfl) | (obtain ⟨s1, s2, s3, s4, s5, s6, s7⟩ := hSw; go_simp; rfl) | (obtain ⟨s1, s2, s3⟩ := hSw; go_simp; rfl) | (obtain ⟨s1, s2⟩ := hSw; go_simp; rfl) | (have s1 := hSw; go_simp; rfl)
          go_simp
          refine wpAnyH_take (i := 1) (v := ?_) rfl (by kernel_rfl) (by kernel_rfl) (by kernel_rfl) (fun _ _ _ h => h) (Or.inl ⟨by rfl, ?_⟩) s5 ?_
          rotate_left
          · intro w hSw; first | (obtain ⟨s1, s2, s3, s4, s5, s6, s7, s8⟩ := hSw; go_simp; rfl) | (obtain ⟨s1, s2, s3, s4, s5, s6, s7⟩ := hSw; go_simp; rfl) | (obtain ⟨s1, s2, s3⟩ := hSw; go_simp; rfl) | (obtain ⟨s1, s2⟩ := hSw; go_simp; rfl) | (have s1 := hSw; go_simp; rfl)
          go_simp
          refine wpAnyH_take (i := 2) (v := ?_) rfl (by kernel_rfl) (by kernel_rfl) (by kernel_rfl) (fun _ _ _ h => h) (Or.inl ⟨by rfl, ?_⟩) s5 ?_
          rotate_left
          · intro w hSw; first | (obtain ⟨s1, s2, s3, s4, s5, s6, s7, s8⟩ := hSw; go_simp; rfl) | (obtain ⟨s1, s2, s3, s4, s5, s6, s7⟩ := hSw; go_simp; rfl) | (obtain ⟨s1, s2, s3⟩ := hSw; go_simp; rfl) | (obtain ⟨s1, s2⟩ := hSw; go_simp; rfl) | (have s1 := hSw; go_simp; rfl)
          go_simp
          refine wpAnyH_take (i := 3) (v := ?_) rfl (by kernel_rfl) (by kernel_rfl) (by kernel_rfl) (fun _ _ _ h => h) (Or.inl ⟨by rfl, ?_⟩) s5 ?_
          rotate_left
          · intro w hSw; first | (obtain ⟨s1, s2, s3, s4, s5, s6, s7, s8⟩ := hSw; go_simp; rfl) | (obtain ⟨s1, s2, s3, s4, s5, s6, s7⟩ := hSw; go_simp; rfl) | (obtain ⟨s1, s2, s3⟩ := hSw; go_simp; rfl) | (obtain ⟨s1, s2⟩ := hSw; go_simp; rfl) | (have s1 := hSw; go_simp; rfl)
          go_simp
          refine wpAnyH_take (i := 4) (v := ?_) rfl (by kernel_rfl) (by kernel_rfl) (by kernel_rfl) (fun _ _ _ h => h) (Or.inl ⟨by rfl, ?_⟩) s5 ?_
          rotate_left
          · intro w hSw; first | (obtain ⟨s1, s2, s3, s4, s5, s6, s7, s8⟩ := hSw; go_simp; rfl) | (obtain ⟨s1, s2, s3, s4, s5, s6, s7⟩ := hSw; go_simp; rfl) | (obtain ⟨s1, s2, s3⟩ := hSw; go_simp; rfl) | (obtain ⟨s1, s2⟩ := hSw; go_simp; rfl) | (have s1 := hSw; go_simp; rfl)
          go_simp
          refine wpAnyH_take (i := 5) (v := ?_) rfl (by kernel_rfl) (by kernel_rfl) (by kernel_rfl) (fun _ _ _ h => h) (Or.inl ⟨by rfl, ?_⟩) s5 ?_
          rotate_left
          · intro w hSw; first | (obtain ⟨s1, s2, s3, s4, s5, s6, s7, s8⟩ := hSw; go_simp; rfl) | (obtain ⟨s1, s2, s3, s4, s5, s6, s7⟩ := hSw; go_simp; rfl) | (obtain ⟨s1, s2, s3⟩ := hSw; go_simp; rfl) | (obtain ⟨s1, s2⟩ := hSw; go_simp; rfl) | (have s1 := hSw; go_simp; rfl)
          go_simp
          refine wpAnyH_take (i := 6) (v := ?_) rfl (by kernel_rfl) (by kernel_rfl) (by kernel_rfl) (fun _ _ _ h => h) (Or.inl ⟨by rfl, ?_⟩) s5 ?_
          rotate_left
          · intro w hSw; first | (obtain ⟨s1, s2, s3, s4, s5, s6, s7, s8⟩ := hSw; go_simp; rfl) | (obtain ⟨s1, s2, s3, s4, s5, s6, s7⟩ := hSw; go_simp; rfl) | (obtain ⟨s1, s2, s3⟩ := hSw; go_simp; rfl) | (obtain ⟨s1, s2⟩ := hSw; go_simp; rfl) | (have s1 := hSw; go_simp; rfl)
          go_simp
          refine wpAnyH_take (i := 7) (v := ?_) rfl (by kernel_rfl) (by kernel_rfl) (by kernel_rfl) (fun _ _ _ h => h) (Or.inl ⟨by rfl, ?_⟩) s5 ?_
          rotate_left
          · intro w hSw; first | (obtain ⟨s1, s2, s3, s4, s5, s6, s7, s8⟩ := hSw; go_simp; rfl) | (obtain ⟨s1, s2, s3, s4, s5, s6, s7⟩ := hSw; go_simp; rfl) | (obtain ⟨s1, s2, s3⟩ := hSw; go_simp; rfl) | (obtain ⟨s1, s2⟩ := hSw; go_simp; rfl) | (have s1 := hSw; go_simp; rfl)
          go_simp
          refine heldOne (i := 8) (by kernel_rfl) rfl (by rfl) (fun K hK => ?_)
          go_simp
          refine HUN5.out.mono ?_
          rintro e w6 ⟨x, rfl, hx, hm6, hf6⟩
          have la5 := lt_of_block HB5.out
          have s6 : w6.cell? ⟨ab, 0, none⟩ = some (.pointer (some ⟨mb, 0, none⟩)) ∧ w6.cell? ⟨xb, 0, none⟩ = some (.int .i64 b.pos) ∧ w6.cell? ⟨xb, 1, none⟩ = some (.int .i64 b.num) :=
            ⟨(hf6.cell la5 (fun e => by have := HAP.out; have := e.2; omega) _).trans s5.1, (hf6.cell lx5 (fun e => by have := e.2; omega) _).trans s5.2.1, (hf6.cell lx5 (fun e => by have := e.2; omega) _).trans s5.2.2⟩
          have HX := Lib.hid hx
          have F6 := Lib.hid (show Fr (fun k => k = mb ∨ k = cb ∨ k = wb) W5 w6 from hf6.mono (fun _ _ e => e.2))
          refine hK.out _ _ s6 ?_
          clear hK K hx hf6 s5
          refine wpAnyH_take (i := 9) (v := ?_) rfl (by kernel_rfl) (by kernel_rfl) (by kernel_rfl) (fun _ _ _ h => h) (Or.inl ⟨by rfl, ?_⟩) s6 ?_
          rotate_left
          · intro w hSw; first | (obtain ⟨s1, s2, s3, s4, s5, s6, s7, s8⟩ := hSw; go_simp; rfl) | (obtain ⟨s1, s2, s3, s4, s5, s6, s7⟩ := hSw; go_simp; rfl) | (obtain ⟨s1, s2, s3⟩ := hSw; go_simp; rfl) | (obtain ⟨s1, s2⟩ := hSw; go_simp; rfl) | (have s1 := hSw; go_simp; rfl)
          go_simp
          refine wpAnyH_done (by kernel_rfl) ?_ _
          clear s6
          have HLEN2 := Lib.hid (show (i : Nat) = (l.eraseIdx i).length by rw [HLEN.out]; (try omega))
          cases oe with
          | none =>
            obtain rfl : x = .nilIface := HX.out
            simp only [if_true] at hm6
            obtain ⟨th', hm6, hth⟩ := hm6
            have hth2 : th' = cnt (fill ws b.pos.toNat b.num.toNat 0) := by have := HUC.out rfl; omega
            subst hth2
            have HM6 := Lib.hid hm6
            clear hm6 hth
            go_wp2
            go_ret
            exact put_fin H.out rfl HN2.out HF4.out HO4.out (by rw [← HLEN2.out]; exact HB5.out) F5.out ⟨_, by rw [if_pos rfl]; exact HM6.out⟩ F6.out (Fr.refl _ _) rfl
          | some o =>
            obtain ⟨qp, qk⟩ := o
            simp only [reduceCtorEq, if_false] at hm6
            have HM6 := Lib.hid hm6
            obtain ⟨eb, rfl⟩ := Says.at HX.out
            clear hm6
            go_wp2_with fail
            refine (afail_in p _ memL qp qk w6 HX.out).mono ?_
            rintro e w7 ⟨x7, rfl, hx7, hn7⟩
            have HX7 := Lib.hid hx7
            have HN7 := Lib.hid hn7
            clear hx7 hn7
            go_wp2
            go_ret
            exact put_fin H.out rfl HN2.out HF4.out HO4.out (by rw [← HLEN2.out]; exact HB5.out) F5.out ⟨_, by rw [if_neg (by simp)]; exact HM6.out⟩ F6.out HN7.out HX7.out
      · have hcc2 : i + 1 < ca := by omega
        refine wpAnyH_take (i := 0) (v := ?_) rfl (by kernel_rfl) (by kernel_rfl) (by kernel_rfl) (fun _ _ _ h => h) (Or.inl ⟨by rfl, ?_⟩) trivial ?_
        rotate_left
        · intro w _; go_simp; rfl
        go_simp
        refine wpAnyH_take (i := 1) (v := ?_) rfl (by kernel_rfl) (by kernel_rfl) (by kernel_rfl) (fun _ _ _ h => h) (Or.inl ⟨by rfl, ?_⟩) trivial ?_
        rotate_left
        · intro w _; go_simp; rfl
        go_simp
        refine wpAnyH_take (i := 2) (v := ?_) rfl (by kernel_rfl) (by kernel_rfl) (by kernel_rfl) (fun _ _ _ h => h) (Or.inl ⟨by rfl, ?_⟩) trivial ?_
        rotate_left
        · intro w _; go_simp; rfl
        go_simp
        refine wpAnyH_take (i := 3) (v := ?_) rfl (by kernel_rfl) (by kernel_rfl) (by kernel_rfl) (fun _ _ _ h => h) (Or.inl ⟨by rfl, ?_⟩) trivial ?_
        rotate_left
        · intro w _; go_simp; rfl
        go_simp
        refine wpAnyH_take (i := 5) (v := ?_) rfl (by kernel_rfl) (by kernel_rfl) (by kernel_rfl) (fun _ _ _ h => h) (Or.inl ⟨by rfl, ?_⟩) trivial ?_
        rotate_left
        · intro w _; go_simp; rfl
        go_simp
        refine wpAnyH_take (i := 7) (v := ?_) rfl (by kernel_rfl) (by kernel_rfl) (by kernel_rfl) (fun _ _ _ h => h) (Or.inl ⟨by rfl, ?_⟩) trivial ?_
        rotate_left
        · intro w _; go_simp; rfl
        go_simp
        refine wpAnyH_take (i := 8) (v := ?_) rfl (by kernel_rfl) (by kernel_rfl) (by kernel_rfl) (fun _ _ _ h => h) (Or.inl ⟨by rfl, ?_⟩) trivial ?_
        rotate_left
        · intro w _; go_simp; rfl
        go_simp
        refine wpAnyH_take (i := 9) (v := ?_) rfl (by kernel_rfl) (by kernel_rfl) (by kernel_rfl) (fun _ _ _ h => h) (Or.inl ⟨by rfl, ?_⟩) trivial ?_
        rotate_left
        · intro w _; go_simp; rfl
        go_simp
        refine wpAnyH_take (i := 11) (v := ?_) rfl (by kernel_rfl) (by kernel_rfl) (by kernel_rfl) (fun _ _ _ h => h) (Or.inl ⟨by rfl, ?_⟩) trivial ?_
        rotate_left
        · intro w _; go_simp; rfl
        go_simp
        refine wpAnyH_take (i := 12) (v := ?_) rfl (by kernel_rfl) (by kernel_rfl) (by kernel_rfl) (fun _ _ _ h => h) (Or.inl ⟨by rfl, ?_⟩) trivial ?_
        rotate_left
        · intro w _; go_simp; rfl
        go_simp
        refine heldEither (i := 4) (j := 10) (by kernel_rfl) rfl rfl (by rfl) (by rfl) (fun K hK => ?_) (fun K hK => ?_)
        · go_simp
          refine hK.out _ _ trivial ?_
          clear hK K
          refine wpAnyH_take (i := 6) (v := ?_) rfl (by kernel_rfl) (by kernel_rfl) (by kernel_rfl) (fun _ _ _ h => h) (Or.inl ⟨by rfl, ?_⟩) trivial ?_
          rotate_left
          · intro w _; go_simp; rfl
          go_simp
          refine heldOne (i := 10) (by kernel_rfl) rfl (by rfl) (fun K hK => ?_)
          go_simp
          refine hK.out _ _ trivial ?_
          clear hK K
          refine wpAnyH_take (i := 13) (v := ?_) rfl (by kernel_rfl) (by kernel_rfl) (by kernel_rfl) (fun _ _ _ h => h) (Or.inl ⟨by rfl, ?_⟩) trivial ?_
          rotate_left
          · intro w _; go_simp; rfl
          go_simp
          refine heldOne (i := 14) (by kernel_rfl) rfl (by rfl) (fun K hK => ?_)
          refine wp_append_own_spare _ (.tmp 28) (.tmp 35) 40 rfl 0 43 i0 3 Tryd.underlying40 hi0 hz1 g i ca ((l.take i).flatMap bC) rfl HOWN.out ⟨g, (i + 1) * 3, none⟩ (N - (i + 1)) _ ((l.drop (i + 1)).flatMap bC) rfl (by have := HNL.out; omega) (fun j u hj => (by rw [addr_add2]; exact HSRC.out j u hj)) (bC_one _) (by omega) ?_
          intro w4 hown4 hgrow4
          have f4 : Fr (· = g) W2 w4 := (Fr.refl _ _).grown hgrow4 (fun k hk _ => by simpa using hk.symm)
          have HF4 := Lib.hid f4
          have HO4 := Lib.hid (show w4.ownsRow 0 43 3 (.slice (some ⟨g, 0, none⟩) (l.eraseIdx i).length ca) (l.eraseIdx i).length ((l.eraseIdx i).flatMap bC) by rw [HLE.out, List.flatMap_append, ← HLE.out, HLEN.out]; (try simp only [Nat.sub_self]); exact hown4)
          have z3 : w4.cell? ⟨ab, 3, none⟩ = some (.slice (some ⟨g, 0, none⟩) _ ca) := (f4.cell (Nat.lt_of_lt_of_le la HN2.out.size) (fun e => hga e.symm) _).trans s3
          have zf : w4.frozen? ⟨ab, 3, none⟩ = false := (f4.frozen (Nat.lt_of_lt_of_le la HN2.out.size) (fun e => hga e.symm) _).trans sf
          refine hK.out _ _ trivial ?_
          clear hK K hown4 hgrow4
          refine wpAnyH_take (i := 15) (v := ?_) rfl (by kernel_rfl) (by kernel_rfl) (by kernel_rfl) (fun _ _ _ h => h) (Or.inl ⟨by rfl, ?_⟩) trivial ?_
          rotate_left
          · intro w _; go_simp; rfl
          go_simp
          refine wpAnyH_take (i := 16) (v := ?_) rfl (by kernel_rfl) (by kernel_rfl) (by kernel_rfl) (fun _ _ _ h => h) (Or.inl ⟨by rfl, ?_⟩) trivial ?_
          rotate_left
          · intro w _; go_simp; rfl
          go_simp
          refine heldOne (i := 17) (by kernel_rfl) rfl (by rfl) (fun K hK => ?_)
          go_simp
          refine hK.out _ _ trivial ?_
          clear hK K
          refine wpAnyH_done (by kernel_rfl) ?_ _
          have hb4 : w4.heap[ab]? = some (.cells #[.pointer (some ⟨mb, 0, none⟩), .int .i64 F, .int .i64 T, .slice (some ⟨g, 0, none⟩) l.length ca] 74 (0, 0)) := by rw [f4.block ab (Nat.lt_of_lt_of_le la HN2.out.size) (fun e => hga e.symm), HN2.out.block ab la id]; exact HHD.out
          obtain ⟨W5, hW5⟩ : ∃ W5, (w4.setCell ⟨ab, 3, none⟩ (.slice (some ⟨g, 0, none⟩) (i + (N - (i + 1))) ca)).drew = W5 := ⟨_, rfl⟩
          have hb5 : W5.heap[ab]? = some (.cells #[.pointer (some ⟨mb, 0, none⟩), .int .i64 F, .int .i64 T, .slice (some ⟨g, 0, none⟩) (i + (N - (i + 1))) ca] 74 (0, 0)) := by rw [← hW5]; exact block_setCell hb4 _
          have f5 : Fr (· = ab) w4 W5 := by rw [← hW5]; exact (Fr.setCell (S := (· = ab)) (Fr.refl _ _) (fun _ => by rfl) _).drew
          have hx5 := (HX2.out.keep f4 hxg).keep f5 hxa
          go_wp2_with fail
          refine heldStart (fun W' => W'.cell? ⟨ab, 0, none⟩ = some (.pointer (some ⟨mb, 0, none⟩)) ∧ W'.cell? ⟨xb, 0, none⟩ = some (.int .i64 b.pos) ∧ W'.cell? ⟨xb, 1, none⟩ = some (.int .i64 b.num)) (by kernel_rfl) ?_
          rw [hW5]
          have s5 : W5.cell? ⟨ab, 0, none⟩ = some (.pointer (some ⟨mb, 0, none⟩)) ∧ W5.cell? ⟨xb, 0, none⟩ = some (.int .i64 b.pos) ∧ W5.cell? ⟨xb, 1, none⟩ = some (.int .i64 b.num) := ⟨cell_of_block hb5 0, hx5.cell 0 _ rfl, hx5.cell 1 _ rfl⟩
          have HB5 := Lib.hid hb5
          have F5 := Lib.hid f5
          have lx5 := hx5.lt
          have hm5 := ((HM.out.keep HN2.out id id id).keep f4 (fun e => (HAP.out.2.2.2 g rfl).1 e.symm) (fun e => (HAP.out.2.2.2 g rfl).2.1 e.symm) (fun e => (HAP.out.2.2.2 g rfl).2.2 e.symm)).keep f5 (fun e => HAP.out.1 e.symm) (fun e => HAP.out.2.1 e.symm) (fun e => HAP.out.2.2.1 e.symm)
          have hxm : xb ≠ mb ∧ xb ≠ cb ∧ xb ≠ wb := by have := HM.out.hd.lt; have := HM.out.cells.lt; have := HM.out.widths.lt; omega
          have HUN5 := Lib.hid (HUN.out W5 hm5)
          clear hW5 hb4 hb5 f4 f5 hx5 hm5 z3 zf s3 sf
          refine wpAnyH_take (i := 0) (v := ?_) rfl (by kernel_rfl) (by kernel_rfl) (by kernel_rfl) (fun _ _ _ h => h) (Or.inl ⟨by rfl, ?_⟩) s5 ?_
          rotate_left
          · intro w hSw; first | (obtain ⟨s1, s2, s3, s4, s5, s6, s7, s8⟩ := hSw; go_simp; rfl) | (obtain ⟨s1, s2, s3, s4, s5, s6, s7⟩ := hSw; go_simp; rfl) | (obtain ⟨s1, s2, s3⟩ := hSw; go_simp; rfl) | (obtain ⟨s1, s2⟩ := hSw; go_simp; rfl) | (have s1 := hSw; go_simp; rfl)
          go_simp
          refine wpAnyH_take (i := 1) (v := ?_) rfl (by kernel_rfl) (by kernel_rfl) (by kernel_rfl) (fun _ _ _ h => h) (Or.inl ⟨by rfl, ?_⟩) s5 ?_
          rotate_left
          · intro w hSw; first | (obtain ⟨s1, s2, s3, s4, s5, s6, s7, s8⟩ := hSw; go_simp; rfl) | (obtain ⟨s1, s2, s3, s4, s5, s6, s7⟩ := hSw; go_simp; rfl) | (obtain ⟨s1, s2, s3⟩ := hSw; go_simp; rfl) | (obtain ⟨s1, s2⟩ := hSw; go_simp; rfl) | (have s1 := hSw; go_simp; rfl)
          go_simp
          refine wpAnyH_take (i := 2) (v := ?_) rfl (by kernel_rfl) (by kernel_rfl) (by kernel_rfl) (fun _ _ _ h => h) (Or.inl ⟨by rfl, ?_⟩) s5 ?_
          rotate_left
          · intro w hSw; first | (obtain ⟨s1, s2, s3, s4, s5, s6, s7, s8⟩ := hSw; go_simp; rfl) | (obtain ⟨s1, s2, s3, s4, s5, s6, s7⟩ := hSw; go_simp; rfl) | (obtain ⟨s1, s2, s3⟩ := hSw; go_simp; rfl) | (obtain ⟨s1, s2⟩ := hSw; go_simp; rfl) | (have s1 := hSw; go_simp; rfl)
          go_simp
          refine wpAnyH_take (i := 3) (v := ?_) rfl (by kernel_rfl) (by kernel_rfl) (by kernel_rfl) (fun _ _ _ h => h) (Or.inl ⟨by rfl, ?_⟩) s5 ?_
          rotate_left
          · intro w hSw; first | (obtain ⟨s1, s2, s3, s4, s5, s6, s7, s8⟩ := hSw; go_simp; rfl) | (obtain ⟨s1, s2, s3, s4, s5, s6, s7⟩ := hSw; go_simp; rfl) | (obtain ⟨s1, s2, s3⟩ := hSw; go_simp; rfl) | (obtain ⟨s1, s2⟩ := hSw; go_simp; rfl) | (have s1 := hSw; go_simp; rfl)
          go_simp
          refine wpAnyH_take (i := 4) (v := ?_) rfl (by kernel_rfl) (by kernel_rfl) (by kernel_rfl) (fun _ _ _ h => h) (Or.inl ⟨by rfl, ?_⟩) s5 ?_
          rotate_left
          · intro w hSw; first | (obtain ⟨s1, s2, s3, s4, s5, s6, s7, s8⟩ := hSw; go_simp; rfl) | (obtain ⟨s1, s2, s3, s4, s5, s6, s7⟩ := hSw; go_simp; rfl) | (obtain ⟨s1, s2, s3⟩ := hSw; go_simp; rfl) | (obtain ⟨s1, s2⟩ := hSw; go_simp; rfl) | (have s1 := hSw; go_simp; rfl)
          go_simp
          refine wpAnyH_take (i := 5) (v := ?_) rfl (by kernel_rfl) (by kernel_rfl) (by kernel_rfl) (fun _ _ _ h => h) (Or.inl ⟨by rfl, ?_⟩) s5 ?_
          rotate_left
          · intro w hSw; first | (obtain ⟨s1, s2, s3, s4, s5, s6, s7, s8⟩ := hSw; go_simp; rfl) | (obtain ⟨s1, s2, s3, s4, s5, s6, s7⟩ := hSw; go_simp; rfl) | (obtain ⟨s1, s2, s3⟩ := hSw; go_simp; rfl) | (obtain ⟨s1, s2⟩ := hSw; go_simp; rfl) | (have s1 := hSw; go_simp; rfl)
          go_simp
          refine wpAnyH_take (i := 6) (v := ?_) rfl (by kernel_rfl) (by kernel_rfl) (by kernel_rfl) (fun _ _ _ h => h) (Or.inl ⟨by rfl, ?_⟩) s5 ?_
          rotate_left
          · intro w hSw; first | (obtain ⟨s1, s2, s3, s4, s5, s6, s7, s8⟩ := hSw; go_simp; rfl) | (obtain ⟨s1, s2, s3, s4, s5, s6, s7⟩ := hSw; go_simp; rfl) | (obtain ⟨s1, s2, s3⟩ := hSw; go_simp; rfl) | (obtain ⟨s1, s2⟩ := hSw; go_simp; rfl) | (have s1 := hSw; go_simp; rfl)
          go_simp
          refine wpAnyH_take (i := 7) (v := ?_) rfl (by kernel_rfl) (by kernel_rfl) (by kernel_rfl) (fun _ _ _ h => h) (Or.inl ⟨by rfl, ?_⟩) s5 ?_
          rotate_left
          · intro w hSw; first | (obtain ⟨s1, s2, s3, s4, s5, s6, s7, s8⟩ := hSw; go_simp; rfl) | (obtain ⟨s1, s2, s3, s4, s5, s6, s7⟩ := hSw; go_simp; rfl) | (obtain ⟨s1, s2, s3⟩ := hSw; go_simp; rfl) | (obtain ⟨s1, s2⟩ := hSw; go_simp; rfl) | (have s1 := hSw; go_simp; rfl)
          go_simp
          refine heldOne (i := 8) (by kernel_rfl) rfl (by rfl) (fun K hK => ?_)
          go_simp
          refine HUN5.out.mono ?_
          rintro e w6 ⟨x, rfl, hx, hm6, hf6⟩
          have la5 := lt_of_block HB5.out
          have s6 : w6.cell? ⟨ab, 0, none⟩ = some (.pointer (some ⟨mb, 0, none⟩)) ∧ w6.cell? ⟨xb, 0, none⟩ = some (.int .i64 b.pos) ∧ w6.cell? ⟨xb, 1, none⟩ = some (.int .i64 b.num) :=
            ⟨(hf6.cell la5 (fun e => by have := HAP.out; have := e.2; omega) _).trans s5.1, (hf6.cell lx5 (fun e => by have := e.2; omega) _).trans s5.2.1, (hf6.cell lx5 (fun e => by have := e.2; omega) _).trans s5.2.2⟩
          have HX := Lib.hid hx
          have F6 := Lib.hid (show Fr (fun k => k = mb ∨ k = cb ∨ k = wb) W5 w6 from hf6.mono (fun _ _ e => e.2))
          refine hK.out _ _ s6 ?_
          clear hK K hx hf6 s5
          refine wpAnyH_take (i := 9) (v := ?_) rfl (by kernel_rfl) (by kernel_rfl) (by kernel_rfl) (fun _ _ _ h => h) (Or.inl ⟨by rfl, ?_⟩) s6 ?_
          rotate_left
          · intro w hSw; first | (obtain ⟨s1, s2, s3, s4, s5, s6, s7, s8⟩ := hSw; go_simp; rfl) | (obtain ⟨s1, s2, s3, s4, s5, s6, s7⟩ := hSw; go_simp; rfl) | (obtain ⟨s1, s2, s3⟩ := hSw; go_simp; rfl) | (obtain ⟨s1, s2⟩ := hSw; go_simp; rfl) | (have s1 := hSw; go_simp; rfl)
          go_simp
          refine wpAnyH_done (by kernel_rfl) ?_ _
          clear s6
          have HLEN2 := Lib.hid (show (i + (N - (i + 1)) : Nat) = (l.eraseIdx i).length by rw [HLEN.out]; (try omega))
          cases oe with
          | none =>
            obtain rfl : x = .nilIface := HX.out
            simp only [if_true] at hm6
            obtain ⟨th', hm6, hth⟩ := hm6
            have hth2 : th' = cnt (fill ws b.pos.toNat b.num.toNat 0) := by have := HUC.out rfl; omega
            subst hth2
            have HM6 := Lib.hid hm6
            clear hm6 hth
            go_wp2
            go_ret
            exact put_fin H.out rfl HN2.out HF4.out HO4.out (by rw [← HLEN2.out]; exact HB5.out) F5.out ⟨_, by rw [if_pos rfl]; exact HM6.out⟩ F6.out (Fr.refl _ _) rfl
          | some o =>
            obtain ⟨qp, qk⟩ := o
            simp only [reduceCtorEq, if_false] at hm6
            have HM6 := Lib.hid hm6
            obtain ⟨eb, rfl⟩ := Says.at HX.out
            clear hm6
            go_wp2_with fail
            refine (afail_in p _ memL qp qk w6 HX.out).mono ?_
            rintro e w7 ⟨x7, rfl, hx7, hn7⟩
            have HX7 := Lib.hid hx7
            have HN7 := Lib.hid hn7
            clear hx7 hn7
            go_wp2
            go_ret
            exact put_fin H.out rfl HN2.out HF4.out HO4.out (by rw [← HLEN2.out]; exact HB5.out) F5.out ⟨_, by rw [if_neg (by simp)]; exact HM6.out⟩ F6.out HN7.out HX7.out
        · go_simp
          refine hK.out _ _ trivial ?_
          clear hK K
          refine wpAnyH_take (i := 13) (v := ?_) rfl (by kernel_rfl) (by kernel_rfl) (by kernel_rfl) (fun _ _ _ h => h) (Or.inl ⟨by rfl, ?_⟩) trivial ?_
          rotate_left
          · intro w _; go_simp; rfl
          go_simp
          refine heldOne (i := 4) (by kernel_rfl) rfl (by rfl) (fun K hK => ?_)
          go_simp
          refine hK.out _ _ trivial ?_
          clear hK K
          refine wpAnyH_take (i := 6) (v := ?_) rfl (by kernel_rfl) (by kernel_rfl) (by kernel_rfl) (fun _ _ _ h => h) (Or.inl ⟨by rfl, ?_⟩) trivial ?_
          rotate_left
          · intro w _; go_simp; rfl
          go_simp
          refine heldOne (i := 14) (by kernel_rfl) rfl (by rfl) (fun K hK => ?_)
          refine wp_append_own_spare _ (.tmp 28) (.tmp 35) 40 rfl 0 43 i0 3 Tryd.underlying40 hi0 hz1 g i ca ((l.take i).flatMap bC) rfl HOWN.out ⟨g, (i + 1) * 3, none⟩ (N - (i + 1)) _ ((l.drop (i + 1)).flatMap bC) rfl (by have := HNL.out; omega) (fun j u hj => (by rw [addr_add2]; exact HSRC.out j u hj)) (bC_one _) (by omega) ?_
          intro w4 hown4 hgrow4
          have f4 : Fr (· = g) W2 w4 := (Fr.refl _ _).grown hgrow4 (fun k hk _ => by simpa using hk.symm)
          have HF4 := Lib.hid f4
          have HO4 := Lib.hid (show w4.ownsRow 0 43 3 (.slice (some ⟨g, 0, none⟩) (l.eraseIdx i).length ca) (l.eraseIdx i).length ((l.eraseIdx i).flatMap bC) by rw [HLE.out, List.flatMap_append, ← HLE.out, HLEN.out]; (try simp only [Nat.sub_self]); exact hown4)
          have z3 : w4.cell? ⟨ab, 3, none⟩ = some (.slice (some ⟨g, 0, none⟩) _ ca) := (f4.cell (Nat.lt_of_lt_of_le la HN2.out.size) (fun e => hga e.symm) _).trans s3
          have zf : w4.frozen? ⟨ab, 3, none⟩ = false := (f4.frozen (Nat.lt_of_lt_of_le la HN2.out.size) (fun e => hga e.symm) _).trans sf
          refine hK.out _ _ trivial ?_
          clear hK K hown4 hgrow4
          refine wpAnyH_take (i := 15) (v := ?_) rfl (by kernel_rfl) (by kernel_rfl) (by kernel_rfl) (fun _ _ _ h => h) (Or.inl ⟨by rfl, ?_⟩) trivial ?_
          rotate_left
          · intro w _; go_simp; rfl
          go_simp
          refine wpAnyH_take (i := 16) (v := ?_) rfl (by kernel_rfl) (by kernel_rfl) (by kernel_rfl) (fun _ _ _ h => h) (Or.inl ⟨by rfl, ?_⟩) trivial ?_
          rotate_left
          · intro w _; go_simp; rfl
          go_simp
          refine heldOne (i := 17) (by kernel_rfl) rfl (by rfl) (fun K hK => ?_)
          go_simp
          refine hK.out _ _ trivial ?_
          clear hK K
          refine wpAnyH_done (by kernel_rfl) ?_ _
          have hb4 : w4.heap[ab]? = some (.cells #[.pointer (some ⟨mb, 0, none⟩), .int .i64 F, .int .i64 T, .slice (some ⟨g, 0, none⟩) l.length ca] 74 (0, 0)) := by rw [f4.block ab (Nat.lt_of_lt_of_le la HN2.out.size) (fun e => hga e.symm), HN2.out.block ab la id]; exact HHD.out
          obtain ⟨W5, hW5⟩ : ∃ W5, (w4.setCell ⟨ab, 3, none⟩ (.slice (some ⟨g, 0, none⟩) (i + (N - (i + 1))) ca)).drew = W5 := ⟨_, rfl⟩
          have hb5 : W5.heap[ab]? = some (.cells #[.pointer (some ⟨mb, 0, none⟩), .int .i64 F, .int .i64 T, .slice (some ⟨g, 0, none⟩) (i + (N - (i + 1))) ca] 74 (0, 0)) := by rw [← hW5]; exact block_setCell hb4 _
          have f5 : Fr (· = ab) w4 W5 := by rw [← hW5]; exact (Fr.setCell (S := (· = ab)) (Fr.refl _ _) (fun _ => by rfl) _).drew
          have hx5 := (HX2.out.keep f4 hxg).keep f5 hxa
          go_wp2_with fail
          refine heldStart (fun W' => W'.cell? ⟨ab, 0, none⟩ = some (.pointer (some ⟨mb, 0, none⟩)) ∧ W'.cell? ⟨xb, 0, none⟩ = some (.int .i64 b.pos) ∧ W'.cell? ⟨xb, 1, none⟩ = some (.int .i64 b.num)) (by kernel_rfl) ?_
          rw [hW5]
          have s5 : W5.cell? ⟨ab, 0, none⟩ = some (.pointer (some ⟨mb, 0, none⟩)) ∧ W5.cell? ⟨xb, 0, none⟩ = some (.int .i64 b.pos) ∧ W5.cell? ⟨xb, 1, none⟩ = some (.int .i64 b.num) := ⟨cell_of_block hb5 0, hx5.cell 0 _ rfl, hx5.cell 1 _ rfl⟩
          have HB5 := Lib.hid hb5
          have F5 := Lib.hid f5
          have lx5 := hx5.lt
          have hm5 := ((HM.out.keep HN2.out id id id).keep f4 (fun e => (HAP.out.2.2.2 g rfl).1 e.symm) (fun e => (HAP.out.2.2.2 g rfl).2.1 e.symm) (fun e => (HAP.out.2.2.2 g rfl).2.2 e.symm)).keep f5 (fun e => HAP.out.1 e.symm) (fun e => HAP.out.2.1 e.symm) (fun e => HAP.out.2.2.1 e.symm)
          have hxm : xb ≠ mb ∧ xb ≠ cb ∧ xb ≠ wb := by have := HM.out.hd.lt; have := HM.out.cells.lt; have := HM.out.widths.lt; omega
          have HUN5 := Lib.hid (HUN.out W5 hm5)
          clear hW5 hb4 hb5 f4 f5 hx5 hm5 z3 zf s3 sf
          refine wpAnyH_take (i := 0) (v := ?_) rfl (by kernel_rfl) (by kernel_rfl) (by kernel_rfl) (fun _ _ _ h => h) (Or.inl ⟨by rfl, ?_⟩) s5 ?_
          rotate_left
          · intro w hSw; first | (obtain ⟨s1, s2, s3, s4, s5, s6, s7, s8⟩ := hSw; go_simp; rfl) | (obtain ⟨s1, s2, s3, s4, s5, s6, s7⟩ := hSw; go_simp; rfl) | (obtain ⟨s1, s2, s3⟩ := hSw; go_simp; rfl) | (obtain ⟨s1, s2⟩ := hSw; go_simp; rfl) | (have s1 := hSw; go_simp; rfl)
          go_simp
          refine wpAnyH_take (i := 1) (v := ?_) rfl (by kernel_rfl) (by kernel_rfl) (by kernel_rfl) (fun _ _ _ h => h) (Or.inl ⟨by rfl, ?_⟩) s5 ?_
          rotate_left
          · intro w hSw; first | (obtain ⟨s1, s2, s3, s4, s5, s6, s7, s8⟩ := hSw; go_simp; rfl) | (obtain ⟨s1, s2, s3, s4, s5, s6, s7⟩ := hSw; go_simp; rfl) | (obtain ⟨s1, s2, s3⟩ := hSw; go_simp; rfl) | (obtain ⟨s1, s2⟩ := hSw; go_simp; rfl) | (have s1 := hSw; go_simp; rfl)
          go_simp
          refine wpAnyH_take (i := 2) (v := ?_) rfl (by kernel_rfl) (by kernel_rfl) (by kernel_rfl) (fun _ _ _ h => h) (Or.inl ⟨by rfl, ?_⟩) s5 ?_
          rotate_left
          · intro w hSw; first | (obtain ⟨s1, s2, s3, s4, s5, s6, s7, s8⟩ := hSw; go_simp; rfl) | (obtain ⟨s1, s2, s3, s4, s5, s6, s7⟩ := hSw; go_simp; rfl) | (obtain ⟨s1, s2, s3⟩ := hSw; go_simp; rfl) | (obtain ⟨s1, s2⟩ := hSw; go_simp; rfl) | (have s1 := hSw; go_simp; rfl)
          go_simp
          refine wpAnyH_take (i := 3) (v := ?_) rfl (by kernel_rfl) (by kernel_rfl) (by kernel_rfl) (fun _ _ _ h => h) (Or.inl ⟨by rfl, ?_⟩) s5 ?_
          rotate_left
          · intro w hSw; first | (obtain ⟨s1, s2, s3, s4, s5, s6, s7, s8⟩ := hSw; go_simp; rfl) | (obtain ⟨s1, s2, s3, s4, s5, s6, s7⟩ := hSw; go_simp; rfl) | (obtain ⟨s1, s2, s3⟩ := hSw; go_simp; rfl) | (obtain ⟨s1, s2⟩ := hSw; go_simp; rfl) | (have s1 := hSw; go_simp; rfl)
          go_simp
          refine wpAnyH_take (i := 4) (v := ?_) rfl (by kernel_rfl) (by kernel_rfl) (by kernel_rfl) (fun _ _ _ h => h) (Or.inl ⟨by rfl, ?_⟩) s5 ?_
          rotate_left
          · intro w hSw; first | (obtain ⟨s1, s2, s3, s4, s5, s6, s7, s8⟩ := hSw; go_simp; rfl) | (obtain ⟨s1, s2, s3, s4, s5, s6, s7⟩ := hSw; go_simp; rfl) | (obtain ⟨s1, s2, s3⟩ := hSw; go_simp; rfl) | (obtain ⟨s1, s2⟩ := hSw; go_simp; rfl) | (have s1 := hSw; go_simp; rfl)
          go_simp
          refine wpAnyH_take (i := 5) (v := ?_) rfl (by kernel_rfl) (by kernel_rfl) (by kernel_rfl) (fun _ _ _ h => h) (Or.inl ⟨by rfl, ?_⟩) s5 ?_
          rotate_left
          · intro w hSw; first | (obtain ⟨s1, s2, s3, s4, s5, s6, s7, s8⟩ := hSw; go_simp; rfl) | (obtain ⟨s1, s2, s3, s4, s5, s6, s7⟩ := hSw; go_simp; rfl) | (obtain ⟨s1, s2, s3⟩ := hSw; go_simp; rfl) | (obtain ⟨s1, s2⟩ := hSw; go_simp; rfl) | (have s1 := hSw; go_simp; rfl)
          go_simp
          refine wpAnyH_take (i := 6) (v := ?_) rfl (by kernel_rfl) (by kernel_rfl) (by kernel_rfl) (fun _ _ _ h => h) (Or.inl ⟨by rfl, ?_⟩) s5 ?_
          rotate_left
          · intro w hSw; first | (obtain ⟨s1, s2, s3, s4, s5, s6, s7, s8⟩ := hSw; go_simp; rfl) | (obtain ⟨s1, s2, s3, s4, s5, s6, s7⟩ := hSw; go_simp; rfl) | (obtain ⟨s1, s2, s3⟩ := hSw; go_simp; rfl) | (obtain ⟨s1, s2⟩ := hSw; go_simp; rfl) | (have s1 := hSw; go_simp; rfl)
          go_simp
          refine wpAnyH_take (i := 7) (v := ?_) rfl (by kernel_rfl) (by kernel_rfl) (by kernel_rfl) (fun _ _ _ h => h) (Or.inl ⟨by rfl, ?_⟩) s5 ?_
          rotate_left
          · intro w hSw; first | (obtain ⟨s1, s2, s3, s4, s5, s6, s7, s8⟩ := hSw; go_simp; rfl) | (obtain ⟨s1, s2, s3, s4, s5, s6, s7⟩ := hSw; go_simp; rfl) | (obtain ⟨s1, s2, s3⟩ := hSw; go_simp; rfl) | (obtain ⟨s1, s2⟩ := hSw; go_simp; rfl) | (have s1 := hSw; go_simp; rfl)
          go_simp
          refine heldOne (i := 8) (by kernel_rfl) rfl (by rfl) (fun K hK => ?_)
          go_simp
          refine HUN5.out.mono ?_
          rintro e w6 ⟨x, rfl, hx, hm6, hf6⟩
          have la5 := lt_of_block HB5.out
          have s6 : w6.cell? ⟨ab, 0, none⟩ = some (.pointer (some ⟨mb, 0, none⟩)) ∧ w6.cell? ⟨xb, 0, none⟩ = some (.int .i64 b.pos) ∧ w6.cell? ⟨xb, 1, none⟩ = some (.int .i64 b.num) :=
            ⟨(hf6.cell la5 (fun e => by have := HAP.out; have := e.2; omega) _).trans s5.1, (hf6.cell lx5 (fun e => by have := e.2; omega) _).trans s5.2.1, (hf6.cell lx5 (fun e => by have := e.2; omega) _).trans s5.2.2⟩
          have HX := Lib.hid hx
          have F6 := Lib.hid (show Fr (fun k => k = mb ∨ k = cb ∨ k = wb) W5 w6 from hf6.mono (fun _ _ e => e.2))
          refine hK.out _ _ s6 ?_
          clear hK K hx hf6 s5
          refine wpAnyH_take (i := 9) (v := ?_) rfl (by kernel_rfl) (by kernel_rfl) (by kernel_rfl) (fun _ _ _ h => h) (Or.inl ⟨by rfl, ?_⟩) s6 ?_
          rotate_left
          · intro w hSw; first | (obtain ⟨s1, s2, s3, s4, s5, s6, s7, s8⟩ := hSw; go_simp; rfl) | (obtain ⟨s1, s2, s3, s4, s5, s6, s7⟩ := hSw; go_simp; rfl) | (obtain ⟨s1, s2, s3⟩ := hSw; go_simp; rfl) | (obtain ⟨s1, s2⟩ := hSw; go_simp; rfl) | (have s1 := hSw; go_simp; rfl)
          go_simp
          refine wpAnyH_done (by kernel_rfl) ?_ _
          clear s6
          have HLEN2 := Lib.hid (show (i + (N - (i + 1)) : Nat) = (l.eraseIdx i).length by rw [HLEN.out]; (try omega))
          cases oe with
          | none =>
            obtain rfl : x = .nilIface := HX.out
            simp only [if_true] at hm6
            obtain ⟨th', hm6, hth⟩ := hm6
            have hth2 : th' = cnt (fill ws b.pos.toNat b.num.toNat 0) := by have := HUC.out rfl; omega
            subst hth2
            have HM6 := Lib.hid hm6
            clear hm6 hth
            go_wp2
            go_ret
            exact put_fin H.out rfl HN2.out HF4.out HO4.out (by rw [← HLEN2.out]; exact HB5.out) F5.out ⟨_, by rw [if_pos rfl]; exact HM6.out⟩ F6.out (Fr.refl _ _) rfl
          | some o =>
            obtain ⟨qp, qk⟩ := o
            simp only [reduceCtorEq, if_false] at hm6
            have HM6 := Lib.hid hm6
            obtain ⟨eb, rfl⟩ := Says.at HX.out
            clear hm6
            go_wp2_with fail
            refine (afail_in p _ memL qp qk w6 HX.out).mono ?_
            rintro e w7 ⟨x7, rfl, hx7, hn7⟩
            have HX7 := Lib.hid hx7
            have HN7 := Lib.hid hn7
            clear hx7 hn7
            go_wp2
            go_ret
            exact put_fin H.out rfl HN2.out HF4.out HO4.out (by rw [← HLEN2.out]; exact HB5.out) F5.out ⟨_, by rw [if_neg (by simp)]; exact HM6.out⟩ F6.out HN7.out HX7.out

end Go.Proofs.YtlmjogfjhngcoaaDoor
