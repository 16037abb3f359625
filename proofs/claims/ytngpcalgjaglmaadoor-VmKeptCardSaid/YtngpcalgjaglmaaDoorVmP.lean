/- The document's step: calls within the code, and coming back. -/
import Derived.Test.YtngpcalgjaglmaaDoorVmO
import Derived.Test.YtngpcalgjaglmaaDoorDocs
namespace Go
/-- append onto a row of one's own, from whatever reads, in a region that draws. -/
theorem wp_append_src {P : Program} {o : Oper} {a : Act} {w : World} {K : Act → World → Prop} {Q : Exit → Act → World → Prop}
    (s x : Operand) (t : TypeId) (ho : o.op = Op.call { callee := Callee.builtin Builtin.append, args := #[s, x], argTypes := #[t, t] })
    (base : Nat) (e : TypeId) (i : TypeInfo) (z : Value) (size bytes : Nat) (ht : P.underlying t = some (.slice e)) (hi : P.info? e = some i) (hz : i.zero = some z)
    (hsize : i.size = size) (hby : i.bytes = bytes) (hzs : z.cells.size = size) (hsz : 0 < size)
    (v : Value) (n : Nat) (xs : List Value) (hs : a.eval s = v) (hown : w.ownsRow base e size v n xs)
    (A : Option Addr) (m c : Nat) (news : List Value) (hx : a.eval x = .slice A m c) (hl : news.length = m * size) (hr : Proofs.YtngpcalgjaglmaaDoor.Src w A m c news) (h1 : ∀ u ∈ news, u.oneCell' = true)
    (h63 : n + m ≤ maxLen) (hbytes : (n + m) * bytes ≤ 140737488355328) (hbase : base ≤ w.heap.size)
    (h : ∀ v' w', w'.ownsRow base e size v' (n + m) (xs ++ news) → w.grownBy w' v.ownBlock → K (a.put o.dst v') w') : o.wp P a w K Q := by
  rcases hr with ⟨rfl, rfl, rfl, rfl⟩ | ⟨ad, rfl, _, hc⟩
  · have hrun := run_append_owned_none (P := P) (w := w) base t o.type e i size ht hi v n xs hown
    unfold Oper.wp
    simp [execOp, ho, resolve, invoke, builtin, hs, hx, hrun, Result.andThen]
    exact h v w (by simpa using hown) (World.grownBy.refl w _)
  · obtain ⟨v', w', hrun, r1, r2, _⟩ := run_append_own (P := P) w base t o.type e i z size bytes ht hi hz hsize hby hzs hsz v n xs hown ad m c news hl hc h1 h63 hbytes hbase
    unfold Oper.wp
    simp [execOp, ho, resolve, invoke, builtin, hs, hx, hrun, Result.andThen]
    exact h v' w' r1 r2
theorem heldThree {P : Program} {md : Region.Mode} {Q : Exit → Act → World → Prop} {S : World → Prop} {l0 : List Oper} {i j l : Nat} {o o' o'' : Oper} {fuel : Nat} {listed : Array Bool} {a : Act} {w : World} (hr : Region.ready md l0.toArray listed = [i, j, l]) (ho : l0[i]? = some o) (ho' : l0[j]? = some o') (ho'' : l0[l]? = some o'')
    (hw : Region.wanted o (yielded l0.toArray a.tmps) = true) (hw' : Region.wanted o' (yielded l0.toArray a.tmps) = true) (hw'' : Region.wanted o'' (yielded l0.toArray a.tmps) = true)
    (h : ∀ K : Act → World → Prop, Shut (∀ a' w', S w' → wpAnyH P md l0.toArray Q S fuel (listed.setIfInBounds i true) a' w' → K a' w') → o.wp P a w K Q)
    (h' : ∀ K : Act → World → Prop, Shut (∀ a' w', S w' → wpAnyH P md l0.toArray Q S fuel (listed.setIfInBounds j true) a' w' → K a' w') → o'.wp P a w K Q)
    (h'' : ∀ K : Act → World → Prop, Shut (∀ a' w', S w' → wpAnyH P md l0.toArray Q S fuel (listed.setIfInBounds l true) a' w' → K a' w') → o''.wp P a w K Q) : wpAnyH P md l0.toArray Q S (fuel + 1) listed a w :=
  ⟨fun h0 => by rw [hr] at h0; simp at h0, fun k hk => by
    rw [hr] at hk
    rcases List.mem_cons.1 hk with rfl | hk
    · unfold wpOp
      rw [show l0.toArray[k]? = some o by simpa using ho]; simp only [hw, if_true]
      exact .inl (h _ (fun a' w' hs hh => ⟨hs, hh⟩))
    · rcases List.mem_cons.1 hk with rfl | hk
      · unfold wpOp
        rw [show l0.toArray[k]? = some o' by simpa using ho']; simp only [hw', if_true]
        exact .inl (h' _ (fun a' w' hs hh => ⟨hs, hh⟩))
      · obtain rfl : k = l := by simpa using hk
        unfold wpOp
        rw [show l0.toArray[k]? = some o'' by simpa using ho'']; simp only [hw'', if_true]
        exact .inl (h'' _ (fun a' w' hs hh => ⟨hs, hh⟩))⟩
end Go
namespace Go.Proofs.YtngpcalgjaglmaaDoor
open Go.RowKit
section
variable (fb o : Nat) (v cv : Value) (F : Fm) (cg co n cap k : Nat) (A B C : Int) (V : Nat) (M W : Int) (w : World)

theorem iV_one (l : List Int) : ∀ u ∈ l.map iV, u.oneCell' = true := by
  intro u hu
  obtain ⟨x, _, rfl⟩ := List.mem_map.1 hu
  rfl
set_option maxRecDepth 100000 in
set_option maxHeartbeats 8000000 in
theorem rstep_15 (h : FmAt w fb o v F) (hi : InsAt w cg co k 15 A B C V M W) (hk : k < n) (hn : n ≤ 1000000) (hV : V < 18446744073709551616) (hpc : F.pc = k) (hg : goodV 15 A B C V n = true) (hVn : V < n) :
    Calls Tryd.prog 11 #[.pointer (some ⟨fb, o, none⟩), .slice (some ⟨cg, co, none⟩) n cap, cv] w fun e w' => RStepped w fb o v (jumpN 15 A V F) e w' := by
  obtain ⟨ao, bc, rfl, _⟩ := owned_form h.own
  have hfew := h.few
  have c33 := h.fr.back
  obtain ⟨nb, hnb⟩ : ∃ nb, F.bk.length = nb := ⟨_, rfl⟩
  have hown := h.own
  rw [hnb] at c33 hfew hown
  have HNB := Lib.hid hnb
  have c0 := h.fr.pc
  have hl := h.fr.lt
  rw [hpc] at c0
  have t1 : IntKind.i64.wrap (V : Int) = (V : Int) := IntWalk.i64_in _ (by omega)
  unfold goodV at hg
  rw [show ((15 : Int) != 22) = true from rfl] at hg
  have HRT := Lib.hid (fun w' => right_any 15 A B C 0 0 V n true w' hV (by omega))
  rw [hg] at HRT
  have HI := Lib.hid hi
  obtain ⟨_, x0, x1, x2, x3, x4, x5, x6⟩ := hi
  have q1 : (0 : Int) ≤ (k : Int) := by omega
  have q2 : (k : Int) < (n : Int) := by omega
  have tk : IntKind.i64.wrap ((k : Int) + 1) = (k : Int) + 1 := IntWalk.i64_in _ (by omega)
  have H := Lib.hid h
  have HPC := Lib.hid hpc
  by_cases h8 : 8 ≤ nb
  · have HJ := Lib.hid (show jumpN 15 A V F = (3, F) by unfold jumpN; rw [if_neg (by decide), if_pos rfl, if_pos (by rw [hnb]; exact h8)])
    clear h hg hpc hnb hown
    go_enter Tryd.func11, Tryd.ntmps11
    go_wp2_with fail
    obtain ⟨W0, hW0⟩ : ∃ W0, (w.alloc (.cells #[.int .i64 15, .int .i64 A, .int .i64 B, .int .i64 C, .int .u64 V, .int .i64 M, .int .i64 W] 52)).alloc (.cells #[.int .i64 15, .int .i64 A, .int .i64 B, .int .i64 C, .int .u64 V, .int .i64 0, .int .i64 0] 52) = W0 := ⟨_, rfl⟩
    have hn0 : New w W0 := by rw [← hW0]; exact ((Fr.refl _ _).alloc _).alloc _
    have hb0 : W0.heap[w.heap.size]? = some (.cells #[.int .i64 15, .int .i64 A, .int .i64 B, .int .i64 C, .int .u64 V, .int .i64 M, .int .i64 W] 52 (0, 0)) := by rw [← hW0, block_alloc (by simp)]; exact block_alloc_new _ _
    rw [hW0]
    obtain ⟨xb, hxb⟩ : ∃ xb, w.heap.size = xb := ⟨_, rfl⟩
    have hxf : fb < xb := by omega
    rw [hxb] at hb0 ⊢
    refine (HRT.out _).mono ?_
    rintro e w1 ⟨rfl, hn1⟩
    have hb1 := (hn1.block xb (lt_of_block hb0) id).trans hb0
    have HB1 := Lib.hid hb1
    have HN1 := Lib.hid (hn0.trans hn1)
    have hx1 := lt_of_block hb1
    obtain ⟨y0, y1, y2, y3, y4, y5, y6⟩ := box_cells hb1
    have d0 := (HN1.out.cell hl id o).trans c0
    have zf : ∀ i, w1.frozen? ⟨fb, i, none⟩ = false := fun i => (HN1.out.frozen hl id i).trans (H.out.fr.free i)
    clear hW0 hn0 hb0 hn1 hb1 c0 x0 x1 x2 x3 x4 x5 x6 HRT HI
    have d33 := (HN1.out.cell hl id _).trans c33
    clear c33
    go_wp2
    go_ret2
    rw [HJ.out]
    exact ⟨_, rfl, H.out.new HN1.out, Fr34.new hl HN1.out, fun k hk => .inl hk⟩
  · have HJ := Lib.hid (show jumpN 15 A V F = (0, ⟨V, F.rs, F.bk ++ [F.pc + 1]⟩) by unfold jumpN; rw [if_neg (by decide), if_pos rfl, if_neg (by rw [hnb]; exact h8)])
    obtain ⟨i0, hi, hz0, hz1, hz2⟩ := info_parts intInfoV
    have HLE := Lib.hid (show (F.bk.map iV).length = nb * 1 by simp [hnb])
    have HSRC := Lib.hid (Src.of_own hown)
    have HONE := Lib.hid (iV_one F.bk)
    clear h hg hpc hnb hown
    go_enter Tryd.func11, Tryd.ntmps11
    go_wp2_with fail
    obtain ⟨W0, hW0⟩ : ∃ W0, (w.alloc (.cells #[.int .i64 15, .int .i64 A, .int .i64 B, .int .i64 C, .int .u64 V, .int .i64 M, .int .i64 W] 52)).alloc (.cells #[.int .i64 15, .int .i64 A, .int .i64 B, .int .i64 C, .int .u64 V, .int .i64 0, .int .i64 0] 52) = W0 := ⟨_, rfl⟩
    have hn0 : New w W0 := by rw [← hW0]; exact ((Fr.refl _ _).alloc _).alloc _
    have hb0 : W0.heap[w.heap.size]? = some (.cells #[.int .i64 15, .int .i64 A, .int .i64 B, .int .i64 C, .int .u64 V, .int .i64 M, .int .i64 W] 52 (0, 0)) := by rw [← hW0, block_alloc (by simp)]; exact block_alloc_new _ _
    rw [hW0]
    obtain ⟨xb, hxb⟩ : ∃ xb, w.heap.size = xb := ⟨_, rfl⟩
    have hxf : fb < xb := by omega
    rw [hxb] at hb0 ⊢
    refine (HRT.out _).mono ?_
    rintro e w1 ⟨rfl, hn1⟩
    have hb1 := (hn1.block xb (lt_of_block hb0) id).trans hb0
    have HB1 := Lib.hid hb1
    have HN1 := Lib.hid (hn0.trans hn1)
    have hx1 := lt_of_block hb1
    obtain ⟨y0, y1, y2, y3, y4, y5, y6⟩ := box_cells hb1
    have d0 := (HN1.out.cell hl id o).trans c0
    have zf : ∀ i, w1.frozen? ⟨fb, i, none⟩ = false := fun i => (HN1.out.frozen hl id i).trans (H.out.fr.free i)
    clear hW0 hn0 hb0 hn1 hb1 c0 x0 x1 x2 x3 x4 x5 x6 HRT HI
    have d33 := (HN1.out.cell hl id _).trans c33
    have hown := World.ownsRow_lit (base := w1.heap.size) (e := 3) (size := 1) w1 #[] 0 (Nat.le_refl _) (Nat.zero_le _) rfl
    have HS1 := Lib.hid (HSRC.out.keep HN1.out (fun _ _ => id))
    have hfb1 : fb < w1.heap.size := by omega
    clear c33
    go_wp2_with (first
      | (at_builtin; refine wpList_append_src rfl (.tmp 143) (.tmp 147) 24 rfl w1.heap.size 3 i0 _ 1 8 Tryd.underlying24 hi hz0 hz1 hz2 rfl (by decide) _ _ _ rfl hown ao nb bc (F.bk.map iV) rfl HLE.out (HS1.out.keep ((Fr.refl (fun _ => False) _).alloc _) (fun _ _ => id)) HONE.out (by unfold maxLen; omega) (by omega) (by simp) ?_; intro v1 w2 hown1 hgrow1; rw [List.nil_append, Nat.zero_add] at hown1; have f1 : Fr (fun k => w1.heap.size ≤ k) w1 w2 := ((Fr.refl _ w1).alloc _).grown hgrow1 (fun k hk _ => by cases hk; exact Nat.le_refl _); have hsz2 := f1.size; obtain ⟨ao1, cap1, rfl, _⟩ := owned_form hown1; have HO1 := Lib.hid hown1; have F1 := Lib.hid f1; clear hgrow1 hown1 f1 hown)
      | (at_builtin; refine wpList_append_src rfl (.tmp 148) (.tmp 150) 24 rfl w1.heap.size 3 i0 _ 1 8 Tryd.underlying24 hi hz0 hz1 hz2 rfl (by decide) _ _ _ rfl (HO1.out.alloc _) (some ⟨w2.heap.size, 0, none⟩) 1 1 [iV ((k : Int) + 1)] rfl rfl (.inr ⟨_, rfl, by simp, Arr.add (Arr.new _ _ _)⟩) (by simp [iV, Value.oneCell']) (by unfold maxLen; omega) (by omega) (by have := F1.out.size; simp; omega) ?_; intro v2 w3 hown2 hgrow2; have f2 : Fr (fun k => w1.heap.size ≤ k) w2 w3 := ((Fr.refl _ w2).alloc _).grown hgrow2 (fun k hk _ => (HO1.out.lt k hk).1); have f12 := F1.out.trans f2; have e33 : w3.cell? ⟨fb, o + 33, none⟩ = some (.slice ao nb bc) := (f12.cell hfb1 (by omega) _).trans d33; have e0 : w3.cell? ⟨fb, o, none⟩ = some (.int .i64 k) := (f12.cell hfb1 (by omega) _).trans d0; have zf3 : ∀ i, w3.frozen? ⟨fb, i, none⟩ = false := fun i => (f12.frozen hfb1 (by omega) i).trans (zf i); have b4 : w3.cell? ⟨xb, 4, none⟩ = some (.int .u64 V) := (f12.cell hx1 (by omega) _).trans y4; obtain ⟨ao2, cap2, rfl, _⟩ := owned_form hown2; have HO2 := Lib.hid hown2; have F2 := Lib.hid f12; clear hgrow2 hown2 f2 f12))
    go_ret2
    rw [HJ.out]
    have ho := HO2.out
    have hn3 : New w w3 := HN1.out.then F2.out (fun i hi e => by have := HN1.out.size; omega)
    have hvk : ∀ k, (Value.slice ao2 (nb + 1) cap2).ownBlock = some k → w.heap.size ≤ k := fun k hk => Nat.le_trans HN1.out.size (ho.lt k hk).1
    have hs3 := (H.out.new hn3).setBack (bk := F.bk ++ [F.pc + 1]) (v' := .slice ao2 (nb + 1) cap2) (by rw [List.length_append, HNB.out, List.map_append, HPC.out]; exact World.ownsRow.mono ho (Nat.zero_le _)) (fun k hk e => by have := hvk k hk; omega) (by rw [List.length_append, HNB.out]; simp; omega)
    exact ⟨_, rfl, hs3.setPc V, ((Fr34.new hl hn3).trans (Fr34.set _ (by omega) (by omega))).trans (Fr34.set _ (Nat.le_refl _) (by omega)), fun k hk => .inr (hvk k hk)⟩

set_option maxRecDepth 100000 in
set_option maxHeartbeats 8000000 in
theorem rstep_16 (h : FmAt w fb o v F) (hi : InsAt w cg co k 16 A B C V M W) (hk : k < n) (hn : n ≤ 1000000) (hV : V < 18446744073709551616) (hpc : F.pc = k) (hg : goodV 16 A B C V n = true) :
    Calls Tryd.prog 11 #[.pointer (some ⟨fb, o, none⟩), .slice (some ⟨cg, co, none⟩) n cap, cv] w fun e w' => RStepped w fb o v (jumpN 16 A V F) e w' := by
  obtain ⟨ao, bc, rfl, _⟩ := owned_form h.own
  have hfew := h.few
  have c33 := h.fr.back
  obtain ⟨nb, hnb⟩ : ∃ nb, F.bk.length = nb := ⟨_, rfl⟩
  have hown := h.own
  rw [hnb] at c33 hfew hown
  have HNB := Lib.hid hnb
  have c0 := h.fr.pc
  have hl := h.fr.lt
  rw [hpc] at c0
  unfold goodV at hg
  rw [show ((16 : Int) != 22) = true from rfl] at hg
  have HRT := Lib.hid (fun w' => right_any 16 A B C 0 0 V n true w' hV (by omega))
  rw [hg] at HRT
  have HI := Lib.hid hi
  obtain ⟨_, x0, x1, x2, x3, x4, x5, x6⟩ := hi
  have q1 : (0 : Int) ≤ (k : Int) := by omega
  have q2 : (k : Int) < (n : Int) := by omega
  have tk : IntKind.i64.wrap ((k : Int) + 1) = (k : Int) + 1 := IntWalk.i64_in _ (by omega)
  have H := Lib.hid h
  have HPC := Lib.hid hpc
  by_cases h0 : F.bk = []
  · have HJ := Lib.hid (show jumpN 16 A V F = (2, F) by unfold jumpN; rw [if_pos rfl, if_pos h0])
    obtain rfl : nb = 0 := by rw [← hnb, h0]; rfl
    clear h hg hpc hnb hown h0
    go_enter Tryd.func11, Tryd.ntmps11
    go_wp2_with fail
    obtain ⟨W0, hW0⟩ : ∃ W0, (w.alloc (.cells #[.int .i64 16, .int .i64 A, .int .i64 B, .int .i64 C, .int .u64 V, .int .i64 M, .int .i64 W] 52)).alloc (.cells #[.int .i64 16, .int .i64 A, .int .i64 B, .int .i64 C, .int .u64 V, .int .i64 0, .int .i64 0] 52) = W0 := ⟨_, rfl⟩
    have hn0 : New w W0 := by rw [← hW0]; exact ((Fr.refl _ _).alloc _).alloc _
    have hb0 : W0.heap[w.heap.size]? = some (.cells #[.int .i64 16, .int .i64 A, .int .i64 B, .int .i64 C, .int .u64 V, .int .i64 M, .int .i64 W] 52 (0, 0)) := by rw [← hW0, block_alloc (by simp)]; exact block_alloc_new _ _
    rw [hW0]
    obtain ⟨xb, hxb⟩ : ∃ xb, w.heap.size = xb := ⟨_, rfl⟩
    have hxf : fb < xb := by omega
    rw [hxb] at hb0 ⊢
    refine (HRT.out _).mono ?_
    rintro e w1 ⟨rfl, hn1⟩
    have hb1 := (hn1.block xb (lt_of_block hb0) id).trans hb0
    have HB1 := Lib.hid hb1
    have HN1 := Lib.hid (hn0.trans hn1)
    have hx1 := lt_of_block hb1
    obtain ⟨y0, y1, y2, y3, y4, y5, y6⟩ := box_cells hb1
    have d0 := (HN1.out.cell hl id o).trans c0
    have zf : ∀ i, w1.frozen? ⟨fb, i, none⟩ = false := fun i => (HN1.out.frozen hl id i).trans (H.out.fr.free i)
    clear hW0 hn0 hb0 hn1 hb1 c0 x0 x1 x2 x3 x4 x5 x6 HRT HI
    have d33 := (HN1.out.cell hl id _).trans c33
    clear c33
    go_wp2
    go_ret2
    rw [HJ.out]
    exact ⟨_, rfl, H.out.new HN1.out, Fr34.new hl HN1.out, fun k hk => .inl hk⟩
  · obtain ⟨r, p, hr⟩ : ∃ r p, F.bk = r ++ [p] := ⟨F.bk.dropLast, F.bk.getLast h0, (List.dropLast_concat_getLast h0).symm⟩
    have HJ := Lib.hid (show jumpN 16 A V F = (0, ⟨p, F.rs, r⟩) by unfold jumpN; rw [if_pos rfl, if_neg h0, hr]; simp [List.getLastD_eq_getLast?])
    obtain ⟨m, hm⟩ : ∃ m, r.length = m := ⟨_, rfl⟩
    obtain rfl : nb = m + 1 := by rw [← hnb, hr, ← hm]; simp
    obtain ⟨g, c, hgc, hcap, hgl, hcell⟩ := own_row1V hown (by omega)
    obtain ⟨rfl, rfl⟩ : ao = some ⟨g, 0, none⟩ ∧ bc = c := by
      have := hgc; simp at this; exact this
    have hgf := h.ap g rfl
    have g0 := hcell m (iV p) (by rw [hr]; simp [hm])
    unfold iV at g0
    have hsrc := (Src.of_own hown).take (k := m) (by omega) m
    rw [show (F.bk.map iV).take m = r.map iV by rw [hr, List.map_append, ← hm]; simp] at hsrc
    obtain ⟨i0, hi, hz0, hz1, hz2⟩ := info_parts intInfoV
    have HLE := Lib.hid (show (r.map iV).length = m * 1 by simp [hm])
    have HSRC := Lib.hid hsrc
    have HONE := Lib.hid (iV_one r)
    have HM := Lib.hid hm
    have tn : ((m : Int) + 1 == 0) = false := by rw [beq_eq_false_iff_ne]; omega
    have tm : IntKind.i64.wrap ((m : Int) + 1 - 1) = (m : Int) := by rw [show (m : Int) + 1 - 1 = m by omega]; exact IntWalk.i64_in _ (by omega)
    have e1 : ((m + 1 : Nat) : Int) = (m : Int) + 1 := by omega
    have q5 : (0 : Int) ≤ (m : Int) := by omega
    have q6 : (m : Int) < (m : Int) + 1 := by omega
    have tmw : IntKind.i64.wrap (m : Int) = (m : Int) := IntWalk.i64_in _ (by omega)
    have q8 : (m : Int) ≤ (bc : Int) := by omega
    clear h hg hpc hnb hown hsrc hr hm h0 hgc hcell
    go_enter Tryd.func11, Tryd.ntmps11
    go_wp2_with fail
    obtain ⟨W0, hW0⟩ : ∃ W0, (w.alloc (.cells #[.int .i64 16, .int .i64 A, .int .i64 B, .int .i64 C, .int .u64 V, .int .i64 M, .int .i64 W] 52)).alloc (.cells #[.int .i64 16, .int .i64 A, .int .i64 B, .int .i64 C, .int .u64 V, .int .i64 0, .int .i64 0] 52) = W0 := ⟨_, rfl⟩
    have hn0 : New w W0 := by rw [← hW0]; exact ((Fr.refl _ _).alloc _).alloc _
    have hb0 : W0.heap[w.heap.size]? = some (.cells #[.int .i64 16, .int .i64 A, .int .i64 B, .int .i64 C, .int .u64 V, .int .i64 M, .int .i64 W] 52 (0, 0)) := by rw [← hW0, block_alloc (by simp)]; exact block_alloc_new _ _
    rw [hW0]
    obtain ⟨xb, hxb⟩ : ∃ xb, w.heap.size = xb := ⟨_, rfl⟩
    have hxf : fb < xb := by omega
    rw [hxb] at hb0 ⊢
    refine (HRT.out _).mono ?_
    rintro e w1 ⟨rfl, hn1⟩
    have hb1 := (hn1.block xb (lt_of_block hb0) id).trans hb0
    have HB1 := Lib.hid hb1
    have HN1 := Lib.hid (hn0.trans hn1)
    have hx1 := lt_of_block hb1
    obtain ⟨y0, y1, y2, y3, y4, y5, y6⟩ := box_cells hb1
    have d0 := (HN1.out.cell hl id o).trans c0
    have zf : ∀ i, w1.frozen? ⟨fb, i, none⟩ = false := fun i => (HN1.out.frozen hl id i).trans (H.out.fr.free i)
    clear hW0 hn0 hb0 hn1 hb1 c0 x0 x1 x2 x3 x4 x5 x6 HRT HI
    have d33 := (HN1.out.cell hl id _).trans c33
    have dg := (HN1.out.cell hgl id m).trans g0
    have hfb1 : fb < w1.heap.size := by omega
    clear c33 g0
    go_wp2_with fail
    go_quiet (fail)
    have hn2 : New w1 (w1.drewN nq) := (Fr.refl _ _).drewN nq
    have d33' := (hn2.cell hfb1 id _).trans d33
    have HN2 := Lib.hid (HN1.out.trans hn2)
    have HS2 := Lib.hid (HSRC.out.keep HN2.out (fun _ _ => id))
    generalize w1.drewN nq = w2 at hn2 d33' HN2 HS2 ⊢
    clear d33 dg hn2 hfb1 d0 zf y0 y1 y2 y3 y4 y5 y6
    go_wp2_with fail
    have n3 : New w2 w2.drew := (Fr.refl _ _).drew
    have HN3 := Lib.hid (HN2.out.trans n3)
    have HS3 := Lib.hid (HS2.out.keep n3 (fun _ _ => id))
    have s3 : w2.drew.cell? ⟨fb, o + 33, none⟩ = some (.slice (some ⟨g, 0, none⟩) (m + 1) bc) := d33'
    refine heldStart (fun _ => True) (by kernel_rfl) ?_
    generalize w2.drew = w3 at n3 HN3 HS3 s3 ⊢
    have hfb3 : fb < w3.heap.size := lt_of_cell s3
    have hown := World.ownsRow_lit (base := w3.heap.size) (e := 3) (size := 1) w3 #[] 0 (Nat.le_refl _) (Nat.zero_le _) rfl
    have n4 : New w3 (w3.alloc (.cells #[] 3)) := (Fr.refl _ _).alloc _
    have s4 := (n4.cell hfb3 id (o + 33)).trans s3
    have HS4 := Lib.hid (HS3.out.keep n4 (fun _ _ => id))
    clear d33' n3 n4
    refine wpAnyH_take (i := 0) (v := ?_) rfl (by kernel_rfl) (by kernel_rfl) (by kernel_rfl) (fun _ _ _ h => h) (Or.inl ⟨by rfl, ?_⟩) trivial ?_
    rotate_left
    · intro w _; go_simp; rfl
    go_simp
    refine wpAnyH_take (i := 2) (v := ?_) rfl (by kernel_rfl) (by kernel_rfl) (by kernel_rfl) (fun _ _ _ h => h) (Or.inl ⟨by rfl, ?_⟩) trivial ?_
    rotate_left
    · intro w _; go_simp; rfl
    go_simp
    refine wpAnyH_take (i := 3) (v := ?_) rfl (by kernel_rfl) (by kernel_rfl) (by kernel_rfl) (fun _ _ _ h => h) (Or.inl ⟨by rfl, ?_⟩) trivial ?_
    rotate_left
    · intro w _; go_simp; rfl
    go_simp
    refine wpAnyH_take (i := 4) (v := ?_) rfl (by kernel_rfl) (by kernel_rfl) (by kernel_rfl) (fun _ _ _ h => h) (Or.inl ⟨by rfl, ?_⟩) trivial ?_
    rotate_left
    · intro w _; go_simp; rfl
    go_simp
    refine wpAnyH_take (i := 6) (v := ?_) rfl (by kernel_rfl) (by kernel_rfl) (by kernel_rfl) (fun _ _ _ h => h) (Or.inl ⟨by rfl, ?_⟩) trivial ?_
    rotate_left
    · intro w _; go_simp; rfl
    go_simp
    refine wpAnyH_take (i := 7) (v := ?_) rfl (by kernel_rfl) (by kernel_rfl) (by kernel_rfl) (fun _ _ _ h => h) (Or.inl ⟨by rfl, ?_⟩) trivial ?_
    rotate_left
    · intro w _; go_simp; rfl
    go_simp
    refine wpAnyH_take (i := 8) (v := ?_) rfl (by kernel_rfl) (by kernel_rfl) (by kernel_rfl) (fun _ _ _ h => h) (Or.inl ⟨by rfl, ?_⟩) trivial ?_
    rotate_left
    · intro w _; go_simp; rfl
    go_simp
    refine heldThree (i := 1) (j := 5) (l := 9) (by kernel_rfl) rfl rfl rfl (by rfl) (by rfl) (by rfl) (fun K hK => ?_) (fun K hK => ?_) (fun K hK => ?_)
    · go_simp
      refine hK.out _ _ trivial ?_
      clear hK K
      refine heldEither (i := 5) (j := 9) (by kernel_rfl) rfl rfl (by rfl) (by rfl) (fun K hK => ?_) (fun K hK => ?_)
      · go_simp
        refine hK.out _ _ trivial ?_
        clear hK K
        refine heldOne (i := 9) (by kernel_rfl) rfl (by rfl) (fun K hK => ?_)
        go_simp
        refine hK.out _ _ trivial ?_
        clear hK K
        refine wpAnyH_take (i := 10) (v := ?_) rfl (by kernel_rfl) (by kernel_rfl) (by kernel_rfl) (fun _ _ _ h => h) (Or.inl ⟨by rfl, ?_⟩) trivial ?_
        rotate_left
        · intro w _; go_simp; rfl
        go_simp
        refine wpAnyH_take (i := 11) (v := ?_) rfl (by kernel_rfl) (by kernel_rfl) (by kernel_rfl) (fun _ _ _ h => h) (Or.inl ⟨by rfl, ?_⟩) trivial ?_
        rotate_left
        · intro w _; go_simp; rfl
        go_simp
        refine wpAnyH_take (i := 12) (v := ?_) rfl (by kernel_rfl) (by kernel_rfl) (by kernel_rfl) (fun _ _ _ h => h) (Or.inl ⟨by rfl, ?_⟩) trivial ?_
        rotate_left
        · intro w _; go_simp; rfl
        go_simp
        refine heldOne (i := 13) (by kernel_rfl) rfl (by rfl) (fun K hK => ?_)
        refine wp_append_src (.tmp 178) (.tmp 189) 24 rfl w3.heap.size 3 i0 _ 1 8 Tryd.underlying24 hi hz0 hz1 hz2 rfl (by decide) _ 0 _ rfl hown (some ⟨g, 0, none⟩) m bc (r.map iV) rfl HLE.out HS4.out HONE.out (by unfold maxLen; omega) (by omega) (by simp) ?_
        intro v5 w5 hown5 hgrow5
        rw [List.nil_append, Nat.zero_add] at hown5
        have f5 : Fr (fun k => w3.heap.size ≤ k) w3 w5 := ((Fr.refl _ w3).alloc _).grown hgrow5 (fun k hk _ => by cases hk; exact Nat.le_refl _)
        have s5 := (f5.cell hfb3 (by omega) (o + 33)).trans s3
        obtain ⟨ao5, cap5, rfl, _⟩ := owned_form hown5
        have hn5 : New w w5 := HN3.out.then f5 (fun i hi e => by have := HN3.out.size; omega)
        have hsz := HN3.out.size
        have HO5 := Lib.hid hown5
        have HN5 := Lib.hid hn5
        refine hK.out _ _ trivial ?_
        clear hK K s3 s4 hgrow5 hown5 f5 hn5 hown
        refine wpAnyH_take (i := 14) (v := ?_) rfl (by kernel_rfl) (by kernel_rfl) (by kernel_rfl) (fun _ _ _ h => h) (Or.inl ⟨by rfl, ?_⟩) trivial ?_
        rotate_left
        · intro w _; go_simp; rfl
        go_simp
        refine wpAnyH_take (i := 15) (v := ?_) rfl (by kernel_rfl) (by kernel_rfl) (by kernel_rfl) (fun _ _ _ h => h) (Or.inl ⟨by rfl, ?_⟩) trivial ?_
        rotate_left
        · intro w _; go_simp; rfl
        go_simp
        refine heldOne (i := 16) (by kernel_rfl) rfl (by rfl) (fun K hK => ?_)
        have yfz : ∀ i, w5.frozen? ⟨fb, i, none⟩ = false := fun i => (HN5.out.frozen hl id i).trans (H.out.fr.free i)
        go_simp
        have hvk : ∀ k, (Value.slice ao5 m cap5).ownBlock = some k → w.heap.size ≤ k := fun k hk => Nat.le_trans hsz (HO5.out.lt k hk).1
        have hs6 := (H.out.new HN5.out).setBack (bk := r) (v' := .slice ao5 m cap5) (by rw [HM.out]; exact World.ownsRow.mono HO5.out (Nat.zero_le _)) (fun k hk e => by have := hvk k hk; omega) (by rw [HM.out]; omega)
        have f6 := (Fr34.new hl HN5.out).trans (Fr34.set (fb := fb) (o := o) (.slice ao5 m cap5) (by omega : o ≤ o + 33) (by omega))
        have HVK := Lib.hid hvk
        have HS6 := Lib.hid hs6
        have HF6 := Lib.hid f6
        refine hK.out _ _ trivial ?_
        clear hK K yfz s5 hvk hs6 f6
        refine wpAnyH_done (by kernel_rfl) ?_ _
        generalize w5.setCell ⟨fb, o + 33, none⟩ (.slice ao5 m cap5) = w6 at HS6 HF6 ⊢
        have e0 : w6.cell? ⟨fb, o, none⟩ = some (.int .i64 k) := by rw [← HPC.out]; exact HS6.out.fr.pc
        have zf6 : ∀ i, w6.frozen? ⟨fb, i, none⟩ = false := HS6.out.fr.free
        go_wp2
        go_ret2
        rw [HJ.out]
        exact ⟨_, rfl, HS6.out.setPc p, HF6.out.trans (Fr34.set _ (Nat.le_refl _) (by omega)), fun k hk => .inr (HVK.out k hk)⟩
      · go_simp
        refine hK.out _ _ trivial ?_
        clear hK K
        refine wpAnyH_take (i := 10) (v := ?_) rfl (by kernel_rfl) (by kernel_rfl) (by kernel_rfl) (fun _ _ _ h => h) (Or.inl ⟨by rfl, ?_⟩) trivial ?_
        rotate_left
        · intro w _; go_simp; rfl
        go_simp
        refine wpAnyH_take (i := 11) (v := ?_) rfl (by kernel_rfl) (by kernel_rfl) (by kernel_rfl) (fun _ _ _ h => h) (Or.inl ⟨by rfl, ?_⟩) trivial ?_
        rotate_left
        · intro w _; go_simp; rfl
        go_simp
        refine heldOne (i := 5) (by kernel_rfl) rfl (by rfl) (fun K hK => ?_)
        go_simp
        refine hK.out _ _ trivial ?_
        clear hK K
        refine wpAnyH_take (i := 12) (v := ?_) rfl (by kernel_rfl) (by kernel_rfl) (by kernel_rfl) (fun _ _ _ h => h) (Or.inl ⟨by rfl, ?_⟩) trivial ?_
        rotate_left
        · intro w _; go_simp; rfl
        go_simp
        refine heldOne (i := 13) (by kernel_rfl) rfl (by rfl) (fun K hK => ?_)
        refine wp_append_src (.tmp 178) (.tmp 189) 24 rfl w3.heap.size 3 i0 _ 1 8 Tryd.underlying24 hi hz0 hz1 hz2 rfl (by decide) _ 0 _ rfl hown (some ⟨g, 0, none⟩) m bc (r.map iV) rfl HLE.out HS4.out HONE.out (by unfold maxLen; omega) (by omega) (by simp) ?_
        intro v5 w5 hown5 hgrow5
        rw [List.nil_append, Nat.zero_add] at hown5
        have f5 : Fr (fun k => w3.heap.size ≤ k) w3 w5 := ((Fr.refl _ w3).alloc _).grown hgrow5 (fun k hk _ => by cases hk; exact Nat.le_refl _)
        have s5 := (f5.cell hfb3 (by omega) (o + 33)).trans s3
        obtain ⟨ao5, cap5, rfl, _⟩ := owned_form hown5
        have hn5 : New w w5 := HN3.out.then f5 (fun i hi e => by have := HN3.out.size; omega)
        have hsz := HN3.out.size
        have HO5 := Lib.hid hown5
        have HN5 := Lib.hid hn5
        refine hK.out _ _ trivial ?_
        clear hK K s3 s4 hgrow5 hown5 f5 hn5 hown
        refine wpAnyH_take (i := 14) (v := ?_) rfl (by kernel_rfl) (by kernel_rfl) (by kernel_rfl) (fun _ _ _ h => h) (Or.inl ⟨by rfl, ?_⟩) trivial ?_
        rotate_left
        · intro w _; go_simp; rfl
        go_simp
        refine wpAnyH_take (i := 15) (v := ?_) rfl (by kernel_rfl) (by kernel_rfl) (by kernel_rfl) (fun _ _ _ h => h) (Or.inl ⟨by rfl, ?_⟩) trivial ?_
        rotate_left
        · intro w _; go_simp; rfl
        go_simp
        refine heldOne (i := 16) (by kernel_rfl) rfl (by rfl) (fun K hK => ?_)
        have yfz : ∀ i, w5.frozen? ⟨fb, i, none⟩ = false := fun i => (HN5.out.frozen hl id i).trans (H.out.fr.free i)
        go_simp
        have hvk : ∀ k, (Value.slice ao5 m cap5).ownBlock = some k → w.heap.size ≤ k := fun k hk => Nat.le_trans hsz (HO5.out.lt k hk).1
        have hs6 := (H.out.new HN5.out).setBack (bk := r) (v' := .slice ao5 m cap5) (by rw [HM.out]; exact World.ownsRow.mono HO5.out (Nat.zero_le _)) (fun k hk e => by have := hvk k hk; omega) (by rw [HM.out]; omega)
        have f6 := (Fr34.new hl HN5.out).trans (Fr34.set (fb := fb) (o := o) (.slice ao5 m cap5) (by omega : o ≤ o + 33) (by omega))
        have HVK := Lib.hid hvk
        have HS6 := Lib.hid hs6
        have HF6 := Lib.hid f6
        refine hK.out _ _ trivial ?_
        clear hK K yfz s5 hvk hs6 f6
        refine wpAnyH_done (by kernel_rfl) ?_ _
        generalize w5.setCell ⟨fb, o + 33, none⟩ (.slice ao5 m cap5) = w6 at HS6 HF6 ⊢
        have e0 : w6.cell? ⟨fb, o, none⟩ = some (.int .i64 k) := by rw [← HPC.out]; exact HS6.out.fr.pc
        have zf6 : ∀ i, w6.frozen? ⟨fb, i, none⟩ = false := HS6.out.fr.free
        go_wp2
        go_ret2
        rw [HJ.out]
        exact ⟨_, rfl, HS6.out.setPc p, HF6.out.trans (Fr34.set _ (Nat.le_refl _) (by omega)), fun k hk => .inr (HVK.out k hk)⟩
    · go_simp
      refine hK.out _ _ trivial ?_
      clear hK K
      refine heldEither (i := 1) (j := 9) (by kernel_rfl) rfl rfl (by rfl) (by rfl) (fun K hK => ?_) (fun K hK => ?_)
      · go_simp
        refine hK.out _ _ trivial ?_
        clear hK K
        refine heldOne (i := 9) (by kernel_rfl) rfl (by rfl) (fun K hK => ?_)
        go_simp
        refine hK.out _ _ trivial ?_
        clear hK K
        refine wpAnyH_take (i := 10) (v := ?_) rfl (by kernel_rfl) (by kernel_rfl) (by kernel_rfl) (fun _ _ _ h => h) (Or.inl ⟨by rfl, ?_⟩) trivial ?_
        rotate_left
        · intro w _; go_simp; rfl
        go_simp
        refine wpAnyH_take (i := 11) (v := ?_) rfl (by kernel_rfl) (by kernel_rfl) (by kernel_rfl) (fun _ _ _ h => h) (Or.inl ⟨by rfl, ?_⟩) trivial ?_
        rotate_left
        · intro w _; go_simp; rfl
        go_simp
        refine wpAnyH_take (i := 12) (v := ?_) rfl (by kernel_rfl) (by kernel_rfl) (by kernel_rfl) (fun _ _ _ h => h) (Or.inl ⟨by rfl, ?_⟩) trivial ?_
        rotate_left
        · intro w _; go_simp; rfl
        go_simp
        refine heldOne (i := 13) (by kernel_rfl) rfl (by rfl) (fun K hK => ?_)
        refine wp_append_src (.tmp 178) (.tmp 189) 24 rfl w3.heap.size 3 i0 _ 1 8 Tryd.underlying24 hi hz0 hz1 hz2 rfl (by decide) _ 0 _ rfl hown (some ⟨g, 0, none⟩) m bc (r.map iV) rfl HLE.out HS4.out HONE.out (by unfold maxLen; omega) (by omega) (by simp) ?_
        intro v5 w5 hown5 hgrow5
        rw [List.nil_append, Nat.zero_add] at hown5
        have f5 : Fr (fun k => w3.heap.size ≤ k) w3 w5 := ((Fr.refl _ w3).alloc _).grown hgrow5 (fun k hk _ => by cases hk; exact Nat.le_refl _)
        have s5 := (f5.cell hfb3 (by omega) (o + 33)).trans s3
        obtain ⟨ao5, cap5, rfl, _⟩ := owned_form hown5
        have hn5 : New w w5 := HN3.out.then f5 (fun i hi e => by have := HN3.out.size; omega)
        have hsz := HN3.out.size
        have HO5 := Lib.hid hown5
        have HN5 := Lib.hid hn5
        refine hK.out _ _ trivial ?_
        clear hK K s3 s4 hgrow5 hown5 f5 hn5 hown
        refine wpAnyH_take (i := 14) (v := ?_) rfl (by kernel_rfl) (by kernel_rfl) (by kernel_rfl) (fun _ _ _ h => h) (Or.inl ⟨by rfl, ?_⟩) trivial ?_
        rotate_left
        · intro w _; go_simp; rfl
        go_simp
        refine wpAnyH_take (i := 15) (v := ?_) rfl (by kernel_rfl) (by kernel_rfl) (by kernel_rfl) (fun _ _ _ h => h) (Or.inl ⟨by rfl, ?_⟩) trivial ?_
        rotate_left
        · intro w _; go_simp; rfl
        go_simp
        refine heldOne (i := 16) (by kernel_rfl) rfl (by rfl) (fun K hK => ?_)
        have yfz : ∀ i, w5.frozen? ⟨fb, i, none⟩ = false := fun i => (HN5.out.frozen hl id i).trans (H.out.fr.free i)
        go_simp
        have hvk : ∀ k, (Value.slice ao5 m cap5).ownBlock = some k → w.heap.size ≤ k := fun k hk => Nat.le_trans hsz (HO5.out.lt k hk).1
        have hs6 := (H.out.new HN5.out).setBack (bk := r) (v' := .slice ao5 m cap5) (by rw [HM.out]; exact World.ownsRow.mono HO5.out (Nat.zero_le _)) (fun k hk e => by have := hvk k hk; omega) (by rw [HM.out]; omega)
        have f6 := (Fr34.new hl HN5.out).trans (Fr34.set (fb := fb) (o := o) (.slice ao5 m cap5) (by omega : o ≤ o + 33) (by omega))
        have HVK := Lib.hid hvk
        have HS6 := Lib.hid hs6
        have HF6 := Lib.hid f6
        refine hK.out _ _ trivial ?_
        clear hK K yfz s5 hvk hs6 f6
        refine wpAnyH_done (by kernel_rfl) ?_ _
        generalize w5.setCell ⟨fb, o + 33, none⟩ (.slice ao5 m cap5) = w6 at HS6 HF6 ⊢
        have e0 : w6.cell? ⟨fb, o, none⟩ = some (.int .i64 k) := by rw [← HPC.out]; exact HS6.out.fr.pc
        have zf6 : ∀ i, w6.frozen? ⟨fb, i, none⟩ = false := HS6.out.fr.free
        go_wp2
        go_ret2
        rw [HJ.out]
        exact ⟨_, rfl, HS6.out.setPc p, HF6.out.trans (Fr34.set _ (Nat.le_refl _) (by omega)), fun k hk => .inr (HVK.out k hk)⟩
      · go_simp
        refine hK.out _ _ trivial ?_
        clear hK K
        refine wpAnyH_take (i := 10) (v := ?_) rfl (by kernel_rfl) (by kernel_rfl) (by kernel_rfl) (fun _ _ _ h => h) (Or.inl ⟨by rfl, ?_⟩) trivial ?_
        rotate_left
        · intro w _; go_simp; rfl
        go_simp
        refine wpAnyH_take (i := 11) (v := ?_) rfl (by kernel_rfl) (by kernel_rfl) (by kernel_rfl) (fun _ _ _ h => h) (Or.inl ⟨by rfl, ?_⟩) trivial ?_
        rotate_left
        · intro w _; go_simp; rfl
        go_simp
        refine wpAnyH_take (i := 12) (v := ?_) rfl (by kernel_rfl) (by kernel_rfl) (by kernel_rfl) (fun _ _ _ h => h) (Or.inl ⟨by rfl, ?_⟩) trivial ?_
        rotate_left
        · intro w _; go_simp; rfl
        go_simp
        refine heldOne (i := 1) (by kernel_rfl) rfl (by rfl) (fun K hK => ?_)
        go_simp
        refine hK.out _ _ trivial ?_
        clear hK K
        refine heldOne (i := 13) (by kernel_rfl) rfl (by rfl) (fun K hK => ?_)
        refine wp_append_src (.tmp 178) (.tmp 189) 24 rfl w3.heap.size 3 i0 _ 1 8 Tryd.underlying24 hi hz0 hz1 hz2 rfl (by decide) _ 0 _ rfl hown (some ⟨g, 0, none⟩) m bc (r.map iV) rfl HLE.out HS4.out HONE.out (by unfold maxLen; omega) (by omega) (by simp) ?_
        intro v5 w5 hown5 hgrow5
        rw [List.nil_append, Nat.zero_add] at hown5
        have f5 : Fr (fun k => w3.heap.size ≤ k) w3 w5 := ((Fr.refl _ w3).alloc _).grown hgrow5 (fun k hk _ => by cases hk; exact Nat.le_refl _)
        have s5 := (f5.cell hfb3 (by omega) (o + 33)).trans s3
        obtain ⟨ao5, cap5, rfl, _⟩ := owned_form hown5
        have hn5 : New w w5 := HN3.out.then f5 (fun i hi e => by have := HN3.out.size; omega)
        have hsz := HN3.out.size
        have HO5 := Lib.hid hown5
        have HN5 := Lib.hid hn5
        refine hK.out _ _ trivial ?_
        clear hK K s3 s4 hgrow5 hown5 f5 hn5 hown
        refine wpAnyH_take (i := 14) (v := ?_) rfl (by kernel_rfl) (by kernel_rfl) (by kernel_rfl) (fun _ _ _ h => h) (Or.inl ⟨by rfl, ?_⟩) trivial ?_
        rotate_left
        · intro w _; go_simp; rfl
        go_simp
        refine wpAnyH_take (i := 15) (v := ?_) rfl (by kernel_rfl) (by kernel_rfl) (by kernel_rfl) (fun _ _ _ h => h) (Or.inl ⟨by rfl, ?_⟩) trivial ?_
        rotate_left
        · intro w _; go_simp; rfl
        go_simp
        refine heldOne (i := 16) (by kernel_rfl) rfl (by rfl) (fun K hK => ?_)
        have yfz : ∀ i, w5.frozen? ⟨fb, i, none⟩ = false := fun i => (HN5.out.frozen hl id i).trans (H.out.fr.free i)
        go_simp
        have hvk : ∀ k, (Value.slice ao5 m cap5).ownBlock = some k → w.heap.size ≤ k := fun k hk => Nat.le_trans hsz (HO5.out.lt k hk).1
        have hs6 := (H.out.new HN5.out).setBack (bk := r) (v' := .slice ao5 m cap5) (by rw [HM.out]; exact World.ownsRow.mono HO5.out (Nat.zero_le _)) (fun k hk e => by have := hvk k hk; omega) (by rw [HM.out]; omega)
        have f6 := (Fr34.new hl HN5.out).trans (Fr34.set (fb := fb) (o := o) (.slice ao5 m cap5) (by omega : o ≤ o + 33) (by omega))
        have HVK := Lib.hid hvk
        have HS6 := Lib.hid hs6
        have HF6 := Lib.hid f6
        refine hK.out _ _ trivial ?_
        clear hK K yfz s5 hvk hs6 f6
        refine wpAnyH_done (by kernel_rfl) ?_ _
        generalize w5.setCell ⟨fb, o + 33, none⟩ (.slice ao5 m cap5) = w6 at HS6 HF6 ⊢
        have e0 : w6.cell? ⟨fb, o, none⟩ = some (.int .i64 k) := by rw [← HPC.out]; exact HS6.out.fr.pc
        have zf6 : ∀ i, w6.frozen? ⟨fb, i, none⟩ = false := HS6.out.fr.free
        go_wp2
        go_ret2
        rw [HJ.out]
        exact ⟨_, rfl, HS6.out.setPc p, HF6.out.trans (Fr34.set _ (Nat.le_refl _) (by omega)), fun k hk => .inr (HVK.out k hk)⟩
    · go_simp
      refine hK.out _ _ trivial ?_
      clear hK K
      refine wpAnyH_take (i := 10) (v := ?_) rfl (by kernel_rfl) (by kernel_rfl) (by kernel_rfl) (fun _ _ _ h => h) (Or.inl ⟨by rfl, ?_⟩) trivial ?_
      rotate_left
      · intro w _; go_simp; rfl
      go_simp
      refine wpAnyH_take (i := 11) (v := ?_) rfl (by kernel_rfl) (by kernel_rfl) (by kernel_rfl) (fun _ _ _ h => h) (Or.inl ⟨by rfl, ?_⟩) trivial ?_
      rotate_left
      · intro w _; go_simp; rfl
      go_simp
      refine heldEither (i := 1) (j := 5) (by kernel_rfl) rfl rfl (by rfl) (by rfl) (fun K hK => ?_) (fun K hK => ?_)
      · go_simp
        refine hK.out _ _ trivial ?_
        clear hK K
        refine heldOne (i := 5) (by kernel_rfl) rfl (by rfl) (fun K hK => ?_)
        go_simp
        refine hK.out _ _ trivial ?_
        clear hK K
        refine wpAnyH_take (i := 12) (v := ?_) rfl (by kernel_rfl) (by kernel_rfl) (by kernel_rfl) (fun _ _ _ h => h) (Or.inl ⟨by rfl, ?_⟩) trivial ?_
        rotate_left
        · intro w _; go_simp; rfl
        go_simp
        refine heldOne (i := 13) (by kernel_rfl) rfl (by rfl) (fun K hK => ?_)
        refine wp_append_src (.tmp 178) (.tmp 189) 24 rfl w3.heap.size 3 i0 _ 1 8 Tryd.underlying24 hi hz0 hz1 hz2 rfl (by decide) _ 0 _ rfl hown (some ⟨g, 0, none⟩) m bc (r.map iV) rfl HLE.out HS4.out HONE.out (by unfold maxLen; omega) (by omega) (by simp) ?_
        intro v5 w5 hown5 hgrow5
        rw [List.nil_append, Nat.zero_add] at hown5
        have f5 : Fr (fun k => w3.heap.size ≤ k) w3 w5 := ((Fr.refl _ w3).alloc _).grown hgrow5 (fun k hk _ => by cases hk; exact Nat.le_refl _)
        have s5 := (f5.cell hfb3 (by omega) (o + 33)).trans s3
        obtain ⟨ao5, cap5, rfl, _⟩ := owned_form hown5
        have hn5 : New w w5 := HN3.out.then f5 (fun i hi e => by have := HN3.out.size; omega)
        have hsz := HN3.out.size
        have HO5 := Lib.hid hown5
        have HN5 := Lib.hid hn5
        refine hK.out _ _ trivial ?_
        clear hK K s3 s4 hgrow5 hown5 f5 hn5 hown
        refine wpAnyH_take (i := 14) (v := ?_) rfl (by kernel_rfl) (by kernel_rfl) (by kernel_rfl) (fun _ _ _ h => h) (Or.inl ⟨by rfl, ?_⟩) trivial ?_
        rotate_left
        · intro w _; go_simp; rfl
        go_simp
        refine wpAnyH_take (i := 15) (v := ?_) rfl (by kernel_rfl) (by kernel_rfl) (by kernel_rfl) (fun _ _ _ h => h) (Or.inl ⟨by rfl, ?_⟩) trivial ?_
        rotate_left
        · intro w _; go_simp; rfl
        go_simp
        refine heldOne (i := 16) (by kernel_rfl) rfl (by rfl) (fun K hK => ?_)
        have yfz : ∀ i, w5.frozen? ⟨fb, i, none⟩ = false := fun i => (HN5.out.frozen hl id i).trans (H.out.fr.free i)
        go_simp
        have hvk : ∀ k, (Value.slice ao5 m cap5).ownBlock = some k → w.heap.size ≤ k := fun k hk => Nat.le_trans hsz (HO5.out.lt k hk).1
        have hs6 := (H.out.new HN5.out).setBack (bk := r) (v' := .slice ao5 m cap5) (by rw [HM.out]; exact World.ownsRow.mono HO5.out (Nat.zero_le _)) (fun k hk e => by have := hvk k hk; omega) (by rw [HM.out]; omega)
        have f6 := (Fr34.new hl HN5.out).trans (Fr34.set (fb := fb) (o := o) (.slice ao5 m cap5) (by omega : o ≤ o + 33) (by omega))
        have HVK := Lib.hid hvk
        have HS6 := Lib.hid hs6
        have HF6 := Lib.hid f6
        refine hK.out _ _ trivial ?_
        clear hK K yfz s5 hvk hs6 f6
        refine wpAnyH_done (by kernel_rfl) ?_ _
        generalize w5.setCell ⟨fb, o + 33, none⟩ (.slice ao5 m cap5) = w6 at HS6 HF6 ⊢
        have e0 : w6.cell? ⟨fb, o, none⟩ = some (.int .i64 k) := by rw [← HPC.out]; exact HS6.out.fr.pc
        have zf6 : ∀ i, w6.frozen? ⟨fb, i, none⟩ = false := HS6.out.fr.free
        go_wp2
        go_ret2
        rw [HJ.out]
        exact ⟨_, rfl, HS6.out.setPc p, HF6.out.trans (Fr34.set _ (Nat.le_refl _) (by omega)), fun k hk => .inr (HVK.out k hk)⟩
      · go_simp
        refine hK.out _ _ trivial ?_
        clear hK K
        refine wpAnyH_take (i := 12) (v := ?_) rfl (by kernel_rfl) (by kernel_rfl) (by kernel_rfl) (fun _ _ _ h => h) (Or.inl ⟨by rfl, ?_⟩) trivial ?_
        rotate_left
        · intro w _; go_simp; rfl
        go_simp
        refine heldOne (i := 1) (by kernel_rfl) rfl (by rfl) (fun K hK => ?_)
        go_simp
        refine hK.out _ _ trivial ?_
        clear hK K
        refine heldOne (i := 13) (by kernel_rfl) rfl (by rfl) (fun K hK => ?_)
        refine wp_append_src (.tmp 178) (.tmp 189) 24 rfl w3.heap.size 3 i0 _ 1 8 Tryd.underlying24 hi hz0 hz1 hz2 rfl (by decide) _ 0 _ rfl hown (some ⟨g, 0, none⟩) m bc (r.map iV) rfl HLE.out HS4.out HONE.out (by unfold maxLen; omega) (by omega) (by simp) ?_
        intro v5 w5 hown5 hgrow5
        rw [List.nil_append, Nat.zero_add] at hown5
        have f5 : Fr (fun k => w3.heap.size ≤ k) w3 w5 := ((Fr.refl _ w3).alloc _).grown hgrow5 (fun k hk _ => by cases hk; exact Nat.le_refl _)
        have s5 := (f5.cell hfb3 (by omega) (o + 33)).trans s3
        obtain ⟨ao5, cap5, rfl, _⟩ := owned_form hown5
        have hn5 : New w w5 := HN3.out.then f5 (fun i hi e => by have := HN3.out.size; omega)
        have hsz := HN3.out.size
        have HO5 := Lib.hid hown5
        have HN5 := Lib.hid hn5
        refine hK.out _ _ trivial ?_
        clear hK K s3 s4 hgrow5 hown5 f5 hn5 hown
        refine wpAnyH_take (i := 14) (v := ?_) rfl (by kernel_rfl) (by kernel_rfl) (by kernel_rfl) (fun _ _ _ h => h) (Or.inl ⟨by rfl, ?_⟩) trivial ?_
        rotate_left
        · intro w _; go_simp; rfl
        go_simp
        refine wpAnyH_take (i := 15) (v := ?_) rfl (by kernel_rfl) (by kernel_rfl) (by kernel_rfl) (fun _ _ _ h => h) (Or.inl ⟨by rfl, ?_⟩) trivial ?_
        rotate_left
        · intro w _; go_simp; rfl
        go_simp
        refine heldOne (i := 16) (by kernel_rfl) rfl (by rfl) (fun K hK => ?_)
        have yfz : ∀ i, w5.frozen? ⟨fb, i, none⟩ = false := fun i => (HN5.out.frozen hl id i).trans (H.out.fr.free i)
        go_simp
        have hvk : ∀ k, (Value.slice ao5 m cap5).ownBlock = some k → w.heap.size ≤ k := fun k hk => Nat.le_trans hsz (HO5.out.lt k hk).1
        have hs6 := (H.out.new HN5.out).setBack (bk := r) (v' := .slice ao5 m cap5) (by rw [HM.out]; exact World.ownsRow.mono HO5.out (Nat.zero_le _)) (fun k hk e => by have := hvk k hk; omega) (by rw [HM.out]; omega)
        have f6 := (Fr34.new hl HN5.out).trans (Fr34.set (fb := fb) (o := o) (.slice ao5 m cap5) (by omega : o ≤ o + 33) (by omega))
        have HVK := Lib.hid hvk
        have HS6 := Lib.hid hs6
        have HF6 := Lib.hid f6
        refine hK.out _ _ trivial ?_
        clear hK K yfz s5 hvk hs6 f6
        refine wpAnyH_done (by kernel_rfl) ?_ _
        generalize w5.setCell ⟨fb, o + 33, none⟩ (.slice ao5 m cap5) = w6 at HS6 HF6 ⊢
        have e0 : w6.cell? ⟨fb, o, none⟩ = some (.int .i64 k) := by rw [← HPC.out]; exact HS6.out.fr.pc
        have zf6 : ∀ i, w6.frozen? ⟨fb, i, none⟩ = false := HS6.out.fr.free
        go_wp2
        go_ret2
        rw [HJ.out]
        exact ⟨_, rfl, HS6.out.setPc p, HF6.out.trans (Fr34.set _ (Nat.le_refl _) (by omega)), fun k hk => .inr (HVK.out k hk)⟩

end

end Go.Proofs.YtngpcalgjaglmaaDoor
