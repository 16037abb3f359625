/- Blocks and the cells that they cover. (Plain, but for the memory's own words.) -/
import Derived.Test.YtlmjogfjhngcoaaDoorAllocE
namespace Go.Proofs.YtlmjogfjhngcoaaDoor
open Go.RowKit

/-- The width of a cell, by the blocks. -/
def hasC (b : Bk) (k : Nat) : Bool := decide (b.pos ≤ (k : Int) ∧ (k : Int) < b.pos + b.num)
def cover (l : List Bk) (k : Nat) : Nat := match l.find? (fun b => hasC b k) with | some b => b.wid.toNat | none => 0
theorem cover_none {l : List Bk} {k : Nat} (h : ∀ b ∈ l, ¬ (b.pos ≤ (k : Int) ∧ (k : Int) < b.pos + b.num)) : cover l k = 0 := by
  unfold cover
  rw [List.find?_eq_none.2 (fun b hb => by simpa [hasC] using h b hb)]
theorem cover_some {F T : Int} {l : List Bk} (hf : Fits F T l) {k : Nat} {b : Bk} (hb : b ∈ l) (h : b.pos ≤ (k : Int) ∧ (k : Int) < b.pos + b.num) : cover l k = b.wid.toNat := by
  unfold cover
  cases hx : l.find? (fun b => hasC b k) with
  | none => have := List.find?_eq_none.1 hx b hb; simp [hasC, h] at this
  | some x =>
    have hxm := List.mem_of_find?_eq_some hx
    have hxc : x.pos ≤ (k : Int) ∧ (k : Int) < x.pos + x.num := by have := List.find?_some hx; simpa [hasC] using this
    obtain ⟨i, hi⟩ := List.mem_iff_getElem?.1 hb
    obtain ⟨j, hj⟩ := List.mem_iff_getElem?.1 hxm
    obtain ⟨li, ei⟩ := List.getElem?_eq_some_iff.1 hi
    obtain ⟨lj, ej⟩ := List.getElem?_eq_some_iff.1 hj
    rcases Nat.lt_trichotomy i j with e | e | e
    · have := List.pairwise_iff_getElem.1 hf.srt i j li lj e
      rw [ei, ej] at this; omega
    · subst e; rw [hi] at hj; rw [Option.some.inj hj]
    · have := List.pairwise_iff_getElem.1 hf.srt j i lj li e
      rw [ei, ej] at this; omega
theorem mem_ins {l : List Bk} {i : Nat} {b x : Bk} : x ∈ insA l i b ↔ x = b ∨ x ∈ l := by
  unfold insA
  constructor
  · intro h
    rcases List.mem_append.1 h with h | h
    · exact .inr (List.mem_of_mem_take h)
    · rcases List.mem_cons.1 h with h | h
      · exact .inl h
      · exact .inr (List.mem_of_mem_drop h)
  · rintro (rfl | h)
    · simp
    · rw [← List.take_append_drop i l] at h
      rcases List.mem_append.1 h with h | h
      · exact List.mem_append_left _ h
      · exact List.mem_append_right _ (List.mem_cons_of_mem _ h)
theorem cover_ins {F T : Int} {l : List Bk} {i : Nat} {b : Bk} (hf : Fits F T l) (hf' : Fits F T (insA l i b)) (k : Nat) : cover (insA l i b) k = if b.pos ≤ (k : Int) ∧ (k : Int) < b.pos + b.num then b.wid.toNat else cover l k := by
  split
  · rename_i h; exact cover_some hf' (mem_ins.2 (.inl rfl)) h
  · rename_i h
    by_cases hx : ∃ x ∈ l, x.pos ≤ (k : Int) ∧ (k : Int) < x.pos + x.num
    · obtain ⟨x, hx, hc⟩ := hx
      rw [cover_some hf' (mem_ins.2 (.inr hx)) hc, cover_some hf hx hc]
    · rw [cover_none (fun x hx' => fun e => hx ⟨x, hx', e⟩), cover_none (fun x hx' => fun e => by
        rcases mem_ins.1 hx' with rfl | hx'
        · exact h e
        · exact hx ⟨x, hx', e⟩)]
theorem cover_erase {F T : Int} {l : List Bk} {i : Nat} {b : Bk} (hf : Fits F T l) (hb : l[i]? = some b) (k : Nat) : cover (l.eraseIdx i) k = if b.pos ≤ (k : Int) ∧ (k : Int) < b.pos + b.num then 0 else cover l k := by
  obtain ⟨li, ei⟩ := List.getElem?_eq_some_iff.1 hb
  have hmem : ∀ x, x ∈ l.eraseIdx i → ∃ j, j ≠ i ∧ l[j]? = some x := by
    intro x hx
    obtain ⟨j, hj⟩ := List.mem_iff_getElem?.1 hx
    rw [List.getElem?_eraseIdx] at hj
    by_cases h : j < i
    · rw [if_pos h] at hj; exact ⟨j, by omega, hj⟩
    · rw [if_neg h] at hj; exact ⟨j + 1, by omega, hj⟩
  have hmem2 : ∀ j x, j ≠ i → l[j]? = some x → x ∈ l.eraseIdx i := by
    intro j x hne hj
    rw [List.mem_iff_getElem?]
    by_cases h : j < i
    · exact ⟨j, by rw [List.getElem?_eraseIdx, if_pos h]; exact hj⟩
    · exact ⟨j - 1, by rw [List.getElem?_eraseIdx, if_neg (by omega), show j - 1 + 1 = j by omega]; exact hj⟩
  split
  · rename_i h
    refine cover_none (fun x hx => fun e => ?_)
    obtain ⟨j, hne, hj⟩ := hmem x hx
    obtain ⟨lj, ej⟩ := List.getElem?_eq_some_iff.1 hj
    rcases Nat.lt_or_gt_of_ne hne with e' | e'
    · have := List.pairwise_iff_getElem.1 hf.srt j i lj li e'
      rw [ei, ej] at this; omega
    · have := List.pairwise_iff_getElem.1 hf.srt i j li lj e'
      rw [ei, ej] at this; omega
  · rename_i h
    by_cases hx : ∃ x ∈ l, x.pos ≤ (k : Int) ∧ (k : Int) < x.pos + x.num
    · obtain ⟨x, hx, hc⟩ := hx
      obtain ⟨j, hj⟩ := List.mem_iff_getElem?.1 hx
      have hne : j ≠ i := by rintro rfl; rw [hb] at hj; exact h (Option.some.inj hj ▸ hc)
      rw [cover_some (hf.erase i) (hmem2 j x hne hj) hc, cover_some hf hx hc]
    · rw [cover_none (fun x hx' => fun e => by obtain ⟨j, _, hj⟩ := hmem x hx'; exact hx ⟨x, List.mem_of_getElem? hj, e⟩), cover_none (fun x hx' => fun e => hx ⟨x, hx', e⟩)]
/-- How many cells the blocks have. -/
def usedN : List Bk → Int
  | [] => 0
  | b :: l => b.num + usedN l
theorem usedN_snoc : ∀ (l : List Bk) (b : Bk), usedN (l ++ [b]) = usedN l + b.num
  | [], b => by show b.num + 0 = 0 + b.num; omega
  | a :: l, b => by show a.num + usedN (l ++ [b]) = a.num + usedN l + b.num; rw [usedN_snoc l b]; omega
theorem usedN_app : ∀ (l r : List Bk), usedN (l ++ r) = usedN l + usedN r
  | [], r => by show usedN r = 0 + usedN r; omega
  | a :: l, r => by show a.num + usedN (l ++ r) = a.num + usedN l + usedN r; rw [usedN_app l r]; omega
theorem usedN_ins (l : List Bk) (i : Nat) (b : Bk) : usedN (insA l i b) = usedN l + b.num := by
  have h := usedN_app (l.take i) (l.drop i)
  rw [List.take_append_drop] at h
  unfold insA
  rw [usedN_app]
  show _ + (b.num + usedN (l.drop i)) = _
  omega
theorem usedN_erase {l : List Bk} {i : Nat} {b : Bk} (hb : l[i]? = some b) : usedN (l.eraseIdx i) + b.num = usedN l := by
  have h := usedN_app (l.take i) (l.drop i)
  obtain ⟨li, e⟩ := List.getElem?_eq_some_iff.1 hb
  rw [List.take_append_drop, List.drop_eq_getElem_cons li, e] at h
  rw [List.eraseIdx_eq_take_drop_succ, usedN_app]
  have h2 : usedN (b :: l.drop (i + 1)) = b.num + usedN (l.drop (i + 1)) := rfl
  omega
/-- Nothing is mapped but the blocks, each with its width. -/
structure Only (ws : List Nat) (M : Nat) (l : List Bk) : Prop where
  len : ws.length = M
  at_ : ∀ k, k < M → ws.getD k 0 = cover l k
  wid : ∀ b ∈ l, b.wid = 32 ∨ b.wid = 64
  sum : ((cnt ws : Nat) : Int) = usedN l
theorem gap_clear {F T : Int} {l : List Bk} (hf : Fits F T l) {i : Nat} (hi : i ≤ l.length) {n : Int} (hg : n ≤ gapA F T l i) (hn : 1 ≤ n) {k : Nat} (h1 : endA F l i ≤ (k : Int)) (h2 : (k : Int) < endA F l i + n) : cover l k = 0 := by
  have hfi := hf.ins hi hn hg (W := 0)
  refine cover_none (fun x hx e => ?_)
  have hx' : x ∈ insA l i ⟨endA F l i, n, 0⟩ := mem_ins.2 (.inr hx)
  obtain ⟨j, hj⟩ := List.mem_iff_getElem?.1 hx
  obtain ⟨lj, ej⟩ := List.getElem?_eq_some_iff.1 hj
  have hp := List.pairwise_append.1 hfi.srt
  by_cases hji : j < i
  · have hm : x ∈ l.take i := List.mem_iff_getElem?.2 ⟨j, by rw [List.getElem?_take_of_lt hji]; exact hj⟩
    have := hp.2.2 x hm ⟨endA F l i, n, 0⟩ (by simp)
    simp only at this; omega
  · have hm : x ∈ l.drop i := List.mem_iff_getElem?.2 ⟨j - i, by rw [List.getElem?_drop, show i + (j - i) = j by omega]; exact hj⟩
    have := (List.pairwise_cons.1 hp.2.1).1 x hm
    simp only at this; omega
theorem firstBad_of (ws : List Nat) (t : Bool) : ∀ (n a : Nat), (∀ i, a ≤ i → i < a + n → (ws.getD i 0 != 0) = t) → firstBad ws t a n = none
  | 0, _, _ => rfl
  | n + 1, a, h => by
    unfold firstBad
    rw [if_pos (h a (Nat.le_refl _) (by omega))]
    exact firstBad_of ws t n (a + 1) (fun i h1 h2 => h i (by omega) (by omega))
theorem Only.mapOk {F T : Int} {l : List Bk} {ws : List Nat} {M : Nat} (h : Only ws M l) (hf : Fits F T l) (hT : T ≤ M) {i : Nat} (hi : i ≤ l.length) {n W : Int} (hg : n ≤ gapA F T l i) (hn : 1 ≤ n) (hW : W = 32 ∨ W = 64) : mapErr ws (endA F l i) n W = none := by
  have he := hf.end_ hi
  have hs := hf.start i
  have hlo := hf.lo
  unfold gapA at hg
  unfold mapErr rowErr
  rw [if_neg (by omega), if_neg (by rw [h.len]; omega)]
  rw [firstBad_of ws false n.toNat (endA F l i).toNat (fun k h1 h2 => by
    rw [h.at_ k (by omega), gap_clear hf hi (n := n) (by unfold gapA; omega) hn (k := k) (by omega) (by omega)]; rfl)]
  rfl
theorem Only.unmapOk {F T : Int} {l : List Bk} {ws : List Nat} {M : Nat} (h : Only ws M l) (hf : Fits F T l) (hT : T ≤ M) {b : Bk} (hb : b ∈ l) : unmapErr ws b.pos b.num = none := by
  have hi := hf.inn b hb
  have hlo := hf.lo
  have hw := h.wid b hb
  unfold unmapErr rowErr
  rw [if_neg (by omega), if_neg (by rw [h.len]; omega)]
  rw [firstBad_of ws true b.num.toNat b.pos.toNat (fun k h1 h2 => by
    rw [h.at_ k (by omega), cover_some hf hb (by omega), bne_iff_ne]; omega)]
  rfl
theorem Only.ins {F T : Int} {l : List Bk} {ws : List Nat} {M : Nat} (h : Only ws M l) (hf : Fits F T l) {i : Nat} {b : Bk} (hf' : Fits F T (insA l i b)) (hT : T ≤ M) (hW : b.wid = 32 ∨ b.wid = 64) (hok : mapErr ws b.pos b.num b.wid = none) : Only (fill ws b.pos.toNat b.num.toNat b.wid.toNat) M (insA l i b) := by
  have hi := hf'.inn b (mem_ins.2 (.inl rfl))
  have hlo := hf.lo
  refine ⟨by rw [fill_len]; exact h.len, fun k hk => ?_, fun x hx => ?_, by have := (map_cnt hok).1; rw [usedN_ins, ← this, h.sum]⟩
  · rw [List.getD_eq_getElem?_getD, fill_get _ _ _ _ _ (by rw [h.len]; exact hk), Option.getD_some, cover_ins hf hf' k]
    by_cases hc : b.pos ≤ (k : Int) ∧ (k : Int) < b.pos + b.num
    · rw [if_pos hc, if_pos (by omega)]
    · rw [if_neg hc, if_neg (by omega)]; exact h.at_ k hk
  · rcases mem_ins.1 hx with rfl | hx
    · exact hW
    · exact h.wid x hx
theorem Only.erase {F T : Int} {l : List Bk} {ws : List Nat} {M : Nat} (h : Only ws M l) (hf : Fits F T l) {i : Nat} {b : Bk} (hb : l[i]? = some b) (hT : T ≤ M) (hok : unmapErr ws b.pos b.num = none) : Only (fill ws b.pos.toNat b.num.toNat 0) M (l.eraseIdx i) := by
  have hi := hf.inn b (List.mem_of_getElem? hb)
  have hlo := hf.lo
  refine ⟨by rw [fill_len]; exact h.len, fun k hk => ?_, fun x hx => h.wid x (List.mem_of_mem_eraseIdx hx), by have := (unmap_cnt hok).1; have h2 := usedN_erase hb; have h3 := h.sum; omega⟩
  rw [List.getD_eq_getElem?_getD, fill_get _ _ _ _ _ (by rw [h.len]; exact hk), Option.getD_some, cover_erase hf hb k]
  by_cases hc : b.pos ≤ (k : Int) ∧ (k : Int) < b.pos + b.num
  · rw [if_pos hc, if_pos (by omega)]
  · rw [if_neg hc, if_neg (by omega)]; exact h.at_ k hk
theorem cnt_zero (n : Nat) : cnt (List.replicate n 0) = 0 := by
  unfold cnt
  rw [List.countP_eq_zero]
  intro x hx
  rw [(List.mem_replicate.1 hx).2]; simp
theorem Only.start (M : Nat) : Only (List.replicate M 0) M [] :=
  ⟨by simp, fun k hk => by rw [List.getD_eq_getElem?_getD, List.getElem?_replicate, if_pos hk]; rfl, fun b hb => (by cases hb), by rw [cnt_zero]; rfl⟩

/-- What is said of an error stays, whatever turns that is no place of an error. -/
theorem ErrIs.keepAt {w w' : World} {S : Nat → Prop} (f : Fr S w w') (hs : ∀ b l n i, w.heap[b]? = some (.cells #[.string l, .int .i64 n, i] 84 (0, 0)) → ¬ S b) : ∀ {v : Value} {r : List (ByteArray × Int)} {k : Int}, ErrIs w v r k → ErrIs w' v r k
  | _, [], _, h => h
  | _, (_, _) :: _, _, ⟨b, inner, hv, hb, hr⟩ => ⟨b, inner, hv, by rw [f.block b (lt_of_block hb) (hs b _ _ _ hb)]; exact hb, ErrIs.keepAt f hs hr⟩
theorem Tells.keepAt {w w' : World} {S : Nat → Prop} (f : Fr S w w') (hs : ∀ b l n i, w.heap[b]? = some (.cells #[.string l, .int .i64 n, i] 84 (0, 0)) → ¬ S b) {v : Value} : ∀ {o : ErrL}, Tells w v o → Tells w' v o
  | none, h => h
  | some (_, _), h => ⟨ErrIs.keepAt f hs h.1, h.2⟩
theorem AM.noAt {w : World} {ab mb cb wb : Nat} {v : Value} {F T : Int} {l : List Bk} {ws : List Nat} (h : AM w ab mb cb wb v F T l ws) (h1 : 1 ≤ ws.length) : ∀ b L n i, w.heap[b]? = some (.cells #[.string L, .int .i64 n, i] 84 (0, 0)) → ¬ OwnA ab mb cb wb v b := by
  intro b L n i hb
  obtain ⟨cs, hm⟩ := h.m
  have c0 := cell_of_block hb 0
  have hl := hm.len
  rintro (rfl | rfl | rfl | rfl | hv)
  · have := h.a.hd.symm.trans hb
    simp only [Option.some.injEq, Obj.cells.injEq] at this
    exact absurd this.2.1 (by decide)
  · have := hm.hd.cell 0 _ rfl
    rw [c0] at this; simp at this
  · obtain ⟨x, hx⟩ : ∃ x, cs[0]? = some x := ⟨cs[0]'(by omega), by simp⟩
    have := at_map hm.cells hx
    rw [c0] at this; simp at this
  · obtain ⟨x, hx⟩ : ∃ x, ws[0]? = some x := ⟨ws[0]'(by omega), by simp⟩
    have := at_map hm.widths hx
    rw [c0] at this; simp at this
  · rcases h.a.own.2 with ⟨e, _⟩ | ⟨g, cap, cur, e, _, hg, _⟩
    · rw [e] at hv; cases hv
    · rw [e] at hv
      obtain rfl : g = b := by simpa [Value.ownBlock] using hv
      have := hg.symm.trans hb
      simp only [Option.some.injEq, Obj.cells.injEq] at this
      exact absurd this.2.1 (by decide)
/-- Block g is none of those that a call upon the blocks may turn. -/
def AwayA (w : World) (ab mb cb wb g : Nat) : Prop := g < w.heap.size ∧ g ≠ ab ∧ g ≠ mb ∧ g ≠ cb ∧ g ≠ wb ∧ ∀ v, w.cell? ⟨ab, 3, none⟩ = some v → v.ownBlock ≠ some g
theorem AwayA.new {w w' : World} {ab mb cb wb g : Nat} (h : AwayA w ab mb cb wb g) (hl : ab < w.heap.size) (f : New w w') : AwayA w' ab mb cb wb g :=
  ⟨Nat.lt_of_lt_of_le h.1 f.size, h.2.1, h.2.2.1, h.2.2.2.1, h.2.2.2.2.1, fun v hv => h.2.2.2.2.2 v ((f.cell hl id 3).symm.trans hv)⟩
/-- Whatever is away stays, and stays away. -/
def StayA (w w' : World) (ab mb cb wb : Nat) : Prop := ∀ g, AwayA w ab mb cb wb g → w'.heap[g]? = w.heap[g]? ∧ AwayA w' ab mb cb wb g
theorem stayA_of {w w' : World} {ab mb cb wb : Nat} {v v' : Value} {F T : Int} {l : List Bk} {ws : List Nat} (h : AM w ab mb cb wb v F T l ws) (h3 : w'.cell? ⟨ab, 3, none⟩ = some v') (f : Fr (OwnA ab mb cb wb v) w w') (ho : ∀ k, v'.ownBlock = some k → v.ownBlock = some k ∨ w.heap.size ≤ k) : StayA w w' ab mb cb wb := by
  rintro g ⟨h0, g1, g2, g3, g4, g5⟩
  have hv := g5 v (cell_of_block h.a.hd 3)
  refine ⟨f.block g h0 ?_, Nat.lt_of_lt_of_le h0 f.size, g1, g2, g3, g4, fun u hu e => ?_⟩
  · rintro (e | e | e | e | e)
    · exact g1 e
    · exact g2 e
    · exact g3 e
    · exact g4 e
    · exact hv e
  · rw [h3] at hu
    obtain rfl := Option.some.inj hu
    rcases ho g e with e | e
    · exact hv e
    · omega
/-- A room of M cells of which nobody else has any; w0: the world ahead of it. -/
structure Rm (w0 w : World) (ab mb cb wb : Nat) (F T : Int) (l : List Bk) (M : Nat) : Prop where
  ex : ∃ v ws, AM w ab mb cb wb v F T l ws ∧ Only ws M l ∧ ∀ k, v.ownBlock = some k → w0.heap.size ≤ k
  top : T ≤ M
  one : 1 ≤ M
  fr : w0.heap.size ≤ ab ∧ w0.heap.size ≤ mb ∧ w0.heap.size ≤ cb ∧ w0.heap.size ≤ wb
  n : New w0 w
section
variable {w0 w w' : World} {ab mb cb wb M : Nat} {F T n W p : Int} {l : List Bk}
theorem Rm.new (h : Rm w0 w ab mb cb wb F T l M) (f : New w w') : Rm w0 w' ab mb cb wb F T l M := by
  obtain ⟨v, ws, h1, h2, h3⟩ := h.ex
  exact ⟨⟨v, ws, h1.new f, h2, h3⟩, h.top, h.one, h.fr, h.n.trans f⟩
theorem Rm.fits (h : Rm w0 w ab mb cb wb F T l M) : Fits F T l := by obtain ⟨v, ws, h1, _⟩ := h.ex; exact h1.a.fit
theorem ownA_new {v : Value} (hf : w0.heap.size ≤ ab ∧ w0.heap.size ≤ mb ∧ w0.heap.size ≤ cb ∧ w0.heap.size ≤ wb) (hv : ∀ k, v.ownBlock = some k → w0.heap.size ≤ k) : ∀ k, OwnA ab mb cb wb v k → w0.heap.size ≤ k := by
  rintro k (rfl | rfl | rfl | rfl | h)
  · exact hf.1
  · exact hf.2.1
  · exact hf.2.2.1
  · exact hf.2.2.2
  · exact hv k h
end
/-- What Get answers where nobody else has cells. -/
noncomputable def gE (F T : Int) (l : List Bk) (n W : Int) : ErrL := by
  classical exact if badArg n W then some ([(alL, 0)], 1) else match getI F T l n with
  | none => some ([(alL, 0)], 3)
  | some _ => none
noncomputable def gP (F T : Int) (l : List Bk) (n W : Int) : Int := by classical exact if badArg n W then 0 else gotP F T l n
noncomputable def gL (F T : Int) (l : List Bk) (n W : Int) : List Bk := by classical exact if badArg n W then l else gotL F T l n W
theorem few_gE (F T : Int) (l : List Bk) (n W : Int) : Few (gE F T l n W) := by
  unfold gE
  split
  · exact .inl ⟨_, rfl⟩
  · split
    · exact .inl ⟨_, rfl⟩
    · trivial
section
variable {w0 w : World} {ab mb cb wb M : Nat} {F T n W p : Int} {l : List Bk}
theorem rm_get (h : Rm w0 w ab mb cb wb F T l M) (hfw : l.length < 100000) :
    Calls Tryd.prog 11 #[.pointer (some ⟨ab, 0, none⟩), .int .i64 n, .int .i64 W] w fun e w' => ∃ x, e = .returned (.tuple #[.int .i64 (gP F T l n W), x]) ∧ Tells w' x (gE F T l n W) ∧ Rm w0 w' ab mb cb wb F T (gL F T l n W) M ∧ (∀ y o, Tells w y o → Tells w' y o) ∧ StayA w w' ab mb cb wb := by
  obtain ⟨v, ws, ha, ho, hv⟩ := h.ex
  have h0 := h.one
  refine (get_any ab mb cb wb v F T l ws n W w ha hfw).mono ?_
  rintro e w' ⟨x, v', rfl, hx, hm, hf, hown⟩
  have hkeep : ∀ (y : Value) (o : ErrL), Tells w y o → Tells w' y o := fun y o => Tells.keepAt (hf.mono (fun _ _ h => h.2)) (ha.noAt (by rw [ho.len]; exact h0))
  have hstay : StayA w w' ab mb cb wb := by
    have hf' := hf.mono (T := OwnA ab mb cb wb v) (fun _ _ h => h.2)
    by_cases he : getE F T l ws n W = none
    · rw [if_pos he] at hm; exact stayA_of ha (cell_of_block hm.a.hd 3) hf' hown
    · rw [if_neg he] at hm; exact stayA_of ha (cell_of_block hm.2.a.hd 3) hf' (fun k hk => .inl hk)
  unfold gP gE gL
  by_cases hb : badArg n W
  · rw [getE_bad hb] at hx hm hf
    rw [getE_bad hb, if_pos hb, if_pos hb, if_pos hb, if_neg (by simp)]
    exact ⟨x, rfl, hx, h.new (hf.mono (fun _ _ h => by cases h.1)), hkeep, hstay⟩
  · obtain ⟨g1, g2, g3⟩ := goodArg hb
    rw [if_neg hb, if_neg hb, if_neg hb]
    cases hi : getI F T l n with
    | none =>
      rw [getE_none hb hi] at hx hm hf
      rw [getE_none hb hi, if_neg (by simp), show gotP F T l n = 0 by unfold gotP; rw [hi], show gotL F T l n W = l by unfold gotL; rw [hi]]
      exact ⟨x, rfl, hx, h.new (hf.mono (fun _ _ h => by cases h.1)), hkeep, hstay⟩
    | some i =>
      obtain ⟨hil, hgi, _⟩ := getI_some hi
      have hok := ho.mapOk ha.a.fit h.top hil hgi g1 g3
      have hE : getE F T l ws n W = none := by rw [getE_some hb hi, hok]; rfl
      have hP : gotP F T l n = endA F l i := by unfold gotP; rw [hi]
      have hL : gotL F T l n W = insA l i ⟨endA F l i, n, W⟩ := by unfold gotL; rw [hi]
      rw [hE] at hx hm hf ⊢
      rw [if_pos rfl] at hm ⊢
      rw [hP, hL] at hm
      rw [hP, hL]
      have hnew := ownA_new h.fr hv
      refine ⟨x, rfl, hx, ⟨⟨v', _, hm, ho.ins ha.a.fit (ha.a.fit.ins hil g1 hgi) h.top g3 hok, fun k hk => ?_⟩, h.top, h.one, h.fr, h.n.then hf (fun k hk e => by have := hnew k e.2; omega)⟩, hkeep, hstay⟩
      rcases hown k hk with h' | h'
      · exact hv k h'
      · have := h.n.size; omega
end

end Go.Proofs.YtlmjogfjhngcoaaDoor
