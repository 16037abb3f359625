/- A heap: taking out. -/
import Derived.Test.YtafeopcbfgmjkaaDoorHeapD
namespace Go.Proofs.YtafeopcbfgmjkaaDoor
open Go.RowKit Go.Maps

/-- The row one shorter, in its place; the key gone. -/
theorem drop_row {w w1 w2 : World} {hb mb g cap last m i : Nat} {L1 S : List Th} {M : Int → Option Value} {t z : Th} (hb0 : w.heap[hb]? = some (.cells #[.slice (some ⟨g, 0, none⟩) (m + 1) cap, .map (some mb), .int .i64 last] 82 (0, 0)))
    (ho : w.ownsRow 0 84 3 (.slice (some ⟨g, 0, none⟩) (m + 1) cap) (m + 1) ((L1 ++ [z]).flatMap thC)) (hm : MapIs Tryd.prog 3 .i64 w mb (m + 1) M) (hL : L1.length = m) (hp : (L1 ++ [z]).Perm S)
    (hf : ∀ x ∈ S, x.d < 18446744073709551616 ∧ x.what < 18446744073709551616 ∧ 1 ≤ x.h ∧ x.h ≤ last) (hl : last ≤ 100000) (hn : m ≤ 100000) (ht : M (t.h : Int) = some (.int .i64 i))
    (f1 : New (w.setCell ⟨hb, 0, none⟩ (.slice (some ⟨g, 0, none⟩) m cap)) w1) (hw2 : MapIs Tryd.prog 3 .i64 w2 mb (if (M (t.h : Int)).isSome then m + 1 - 1 else m + 1) (fun y => if y = (t.h : Int) then none else M y)) (f2 : Fr (· = mb) w1 w2) :
    HRow w2 hb g mb m cap L1 last m (mapDn M t.h) ∧ Fr (fun k => k = hb ∨ k = mb) w w2 := by
  have f3 : Fr (· = hb) w (w.setCell ⟨hb, 0, none⟩ (.slice (some ⟨g, 0, none⟩) m cap)) := (Fr.refl (· = hb) w).setCell (fun _ => rfl) _
  have hne : mb ≠ hb := hm.apart hb0
  rw [ht] at hw2
  have hb3 := block_setCell (o := 0) hb0 (.slice (some ⟨g, 0, none⟩) m cap)
  rw [show ((L1 ++ [z]).flatMap thC) = L1.flatMap thC ++ thC z by simp] at ho
  have o1 := ownsRow_pop (by rw [len_flatMap thC 3 thC_len, hL]) ho
  have hgh := own_apart o1 hb0 (by decide)
  have hgm := own_apart_map o1 hm
  have o2 := own_kept o1 f3 hgh
  have o3 := own_kept o2 f1 (fun _ _ => id)
  have o4 := own_kept o3 f2 hgm
  have fall : Fr (fun k => k = hb ∨ k = mb) w w2 := ((f3.mono (fun _ _ h => .inl h)).trans (f1.mono (fun _ _ h => h.elim))).trans (f2.mono (fun _ _ h => .inr h))
  exact ⟨⟨by rw [f2.block hb (Nat.lt_of_lt_of_le (lt_of_block hb3) f1.size) (Ne.symm hne), f1.block hb (lt_of_block hb3) id]; exact hb3, o4, hw2, fun x hx => hf x (hp.mem_iff.1 (List.mem_append_left _ hx)), by omega, by omega, by omega⟩, fall⟩

set_option maxRecDepth 100000 in
set_option maxHeartbeats 8000000 in
theorem hdrop_ok (hb mb : Nat) (v : Value) (S : List Th) (last : Nat) (t : Th) (w : World) (h : HeapRep w hb mb v S last) (ht : t ∈ S) :
    Calls Tryd.prog 25 #[.pointer (some ⟨hb, 0, none⟩), .int .i64 t.h] w fun e w' => e = .returned (.tuple #[.int .u64 t.what, .bool true]) ∧ ∃ v', HeapRep w' hb mb v' (woH S t.h) last ∧ (∀ k, v'.ownBlock = some k → v.ownBlock = some k) ∧ Fr (hOwn hb mb v) w w' := by
  obtain ⟨L, M, h1, h2, h3, h4, h5, h6, h7, h8, h9, h10, h11⟩ := id h
  obtain ⟨i, hi⟩ := List.mem_iff_getElem?.1 (h6.mem_iff.2 ht)
  have hil := (List.getElem?_eq_some_iff.1 hi).1
  obtain ⟨L1, z, rfl⟩ : ∃ L1 z, L = L1 ++ [z] := by
    have hne : L ≠ [] := fun e => by rw [e] at hil; simp at hil
    exact ⟨L.dropLast, L.getLast hne, (List.dropLast_concat_getLast hne).symm⟩
  obtain ⟨m, hm⟩ : ∃ m, L1.length = m := ⟨_, rfl⟩
  rw [List.length_append, List.length_singleton, hm] at h2 h3 h5 hil
  have hml : m ≤ 100000 := by have := h6.length_eq; simp at this; omega
  obtain ⟨g, cap, rfl, hcap⟩ : ∃ g cap, v = .slice (some ⟨g, 0, none⟩) (m + 1) cap ∧ m + 1 ≤ cap := by
    rcases h2.2 with ⟨_, h0⟩ | ⟨g, cap, cur, hv, _, _, hnc, _⟩
    · omega
    · exact ⟨g, cap, hv, hnc⟩
  have hft := h9 t ht
  have hzm : (L1 ++ [z])[m]? = some z := by rw [List.getElem?_append_right (by omega), hm]; simp
  have hfz := h9 z (h6.mem_iff.1 (List.mem_of_getElem? hzm))
  have hrow : HRow w hb g mb (m + 1) cap (L1 ++ [z]) last (m + 1) M := ⟨h1, h2, h3, fun x hx => h9 x (h6.mem_iff.1 hx), by omega, by omega, by omega⟩
  obtain ⟨a0, a1, a2⟩ := hrow.at hi
  obtain ⟨b0, b1, b2⟩ := hrow.at hzm
  have hap := hrow.apart
  obtain ⟨cur, hgb⟩ := hrow.block
  have lg := lt_of_block hgb
  have l1 := lt_of_block h1
  have lm := h3.lt
  have c0 := cell_of_block h1 0
  have c1 := cell_of_block h1 1
  have z0 := free_of_block h1 0
  rw [show (#[Value.slice (some ⟨g, 0, none⟩) (m + 1) cap, .map (some mb), .int .i64 last] : Array Value)[0]? = some (.slice (some ⟨g, 0, none⟩) (m + 1) cap) from rfl] at c0
  rw [show (#[Value.slice (some ⟨g, 0, none⟩) (m + 1) cap, .map (some mb), .int .i64 last] : Array Value)[1]? = some (.map (some mb)) from rfl] at c1
  have hMt := h4.at' i t hi
  have hwf := wf_i64 (x := t.h) (by omega)
  have hlook := h3.look2 keyI Tryd.underlying79 (zeroI w) hwf
  rw [hMt] at hlook
  have HIM := Lib.hid (show i < m + 1 from hil)
  have i0 : (0 : Int) ≤ (i : Int) := by omega
  have i1 : (i : Int) < (m : Int) + 1 := by omega
  have m0 : (0 : Int) ≤ (m : Int) := by omega
  have m1 : (m : Int) ≤ (cap : Int) := by omega
  have HM := Lib.hid hm
  have HB := Lib.hid h1
  have HO := Lib.hid h2
  have HMP := Lib.hid h3
  have HPOS := Lib.hid h4
  have HHP := Lib.hid h5
  have H6 := Lib.hid h6
  have H7 := Lib.hid h7
  have H8 := Lib.hid h8
  have H9 := Lib.hid h9
  have HI := Lib.hid hi
  have HMT := Lib.hid hMt
  clear h h1 h2 h3 h4 h5 h6 h7 h8 h9 hi hMt hrow hgb hm hzm ht
  go_enter Tryd.func25, Tryd.ntmps25
  have fW : New (w.setCell ⟨hb, 0, none⟩ (.slice (some ⟨g, 0, none⟩) m cap)) (((w.setCell ⟨hb, 0, none⟩ (.slice (some ⟨g, 0, none⟩) m cap)).alloc (.cells #[.int .u64 t.d, .int .u64 t.what, .int .i64 t.h] 84)).alloc (.cells #[.int .u64 z.d, .int .u64 z.what, .int .i64 z.h] 84)) := ((Fr.refl _ _).alloc _).alloc _
  have FW := Lib.hid fW
  have MW := Lib.hid (HMP.out.keep (((Fr.refl (· = hb) w).setCell (p := ⟨hb, 0, none⟩) (fun _ => rfl) (.slice (some ⟨g, 0, none⟩) m cap)).trans (fW.mono (fun _ _ h => h.elim))) hap.2.1)
  have TB := Lib.hid (show (((w.setCell ⟨hb, 0, none⟩ (.slice (some ⟨g, 0, none⟩) m cap)).alloc (.cells #[.int .u64 t.d, .int .u64 t.what, .int .i64 t.h] 84)).alloc (.cells #[.int .u64 z.d, .int .u64 z.what, .int .i64 z.h] 84)).heap[w.heap.size]? = some (.cells #[.int .u64 t.d, .int .u64 t.what, .int .i64 t.h] 84 (0, 0)) ∧ (((w.setCell ⟨hb, 0, none⟩ (.slice (some ⟨g, 0, none⟩) m cap)).alloc (.cells #[.int .u64 t.d, .int .u64 t.what, .int .i64 t.h] 84)).alloc (.cells #[.int .u64 z.d, .int .u64 z.what, .int .i64 z.h] 84)).heap[w.heap.size + 1]? = some (.cells #[.int .u64 z.d, .int .u64 z.what, .int .i64 z.h] 84 (0, 0)) from by
    have h1 := block_alloc_new (w.setCell ⟨hb, 0, none⟩ (.slice (some ⟨g, 0, none⟩) m cap)) (.cells #[.int .u64 t.d, .int .u64 t.what, .int .i64 t.h] 84)
    have h2 := block_alloc_new1 (w.setCell ⟨hb, 0, none⟩ (.slice (some ⟨g, 0, none⟩) m cap)) (.cells #[.int .u64 t.d, .int .u64 t.what, .int .i64 t.h] 84) (.cells #[.int .u64 z.d, .int .u64 z.what, .int .i64 z.h] 84)
    simp only [World.size_setCell] at h1 h2
    exact ⟨(block_alloc (by simp)).trans h1, h2⟩)
  clear fW
  clear hap
  by_cases him : i < m
  · have i2 : (i : Int) < (m : Int) := by omega
    have d1 : decide (i < m) = true := by simpa using him
    have HIL := Lib.hid (show L1[i]? = some t by have := HI.out; rw [List.getElem?_append_left (by rw [HM.out]; exact him)] at this; exact this)
    go_wp2_with (at_delete; go_loud (refine wpList_delete_mapIs rfl _ _ 79 3 rfl 3 .i64 keyI Tryd.underlying79 mb (m + 1) M rfl MW.out t.h rfl hwf ?_; intro w2 hmap2 hf2; obtain ⟨hrow2, hfr2⟩ := drop_row HB.out HO.out HMP.out HM.out H6.out H9.out h10 hml HMT.out FW.out hmap2 hf2; have tb2 := (hf2.block w.heap.size (lt_of_block TB.out.1) (by omega)).trans TB.out.1; have zb2 := (hf2.block (w.heap.size + 1) (lt_of_block TB.out.2) (by omega)).trans TB.out.2; have R2 := Lib.hid hrow2; have F2 := Lib.hid hfr2; have TB2 := Lib.hid tb2; have ZB2 := Lib.hid zb2; have u1 := cell_of_block tb2 1; have lt2 := lt_of_block tb2; have lz2 := lt_of_block zb2; have s0 := cell_of_block zb2 0; have s1 := cell_of_block zb2 1; have s2 := cell_of_block zb2 2; clear hmap2 hf2 hrow2 hfr2 tb2 zb2))
    obtain ⟨f1, f2, f3⟩ := fill_pl (M := M) HPOS.out (H8.out.perm H6.out) HIL.out
    rw [HM.out] at f1 f2
    have HLA := Lib.hid (lay_any hb g mb m cap L1 last m (mapDn M t.h) i z w2 R2.out him hfz (.inl f3))
    rw [f2] at HLA
    have HPL := Lib.hid f1
    clear f1 f2 f3
    refine HLA.out.mono ?_
    rintro e w3 ⟨rfl, hr3, hf3⟩
    have hup := up_any hb g mb m cap (L1.set i z) last m _ i z w3 hr3 (getset (by rw [HM.out]; exact him)) (fill_hs (H8.out.perm H6.out) HIL.out) HPL.out (by have := fill_up (L := L1) (z := z) (i := i) (by rw [HM.out]; exact HHP.out) (by rw [HM.out]; exact him); rwa [HM.out] at this)
    have HUP := Lib.hid hup
    have R3 := Lib.hid hr3
    have HF3 := Lib.hid hf3
    clear hup hr3 hf3 HLA s0 s1 s2 u1
    go_wp2_with fail
    refine HUP.out.mono ?_
    rintro e w4 ⟨rfl, L', M', i', hr4, hp4, hpos4, hi4, hdn4, _, hf4⟩
    have hl4 : L'.length = m := hr4.len
    have hpl4 := pos_pl hpos4 i'
    rw [hl4] at hpl4
    have hdw := fun w' (n : New w4 w') => down_any hb g mb m cap L' last m M' i' z w' (hr4.new n) hi4 ((fill_hs (H8.out.perm H6.out) HIL.out).perm hp4) hpl4 hdn4
    have HDW := Lib.hid hdw
    have R4 := Lib.hid hr4
    have HP4 := Lib.hid hp4
    have F4 := Lib.hid ((HF3.out.trans hf4))
    have hMz := hpos4.at' i' z hi4
    clear hdw hr4 hp4 hpos4 hdn4 hf4 hpl4 HUP
    have hgl : g < w.heap.size ∧ mb < w.heap.size := ⟨lg, lm⟩
    clear a0 a1 a2 b0 b1 b2 c0 c1 z0 hlook
    go_wp2_with fail
    obtain ⟨W5, hW5⟩ : ∃ W5, w4.drew = W5 := ⟨_, rfl⟩
    have f5 : New w4 W5 := by rw [← hW5]; exact (Fr.refl _ _).drew
    have r5 := R4.out.new f5
    have fa := F4.out.trans (f5.mono (T := fun k => k = g ∨ k = mb) (fun _ _ h => h.elim))
    have zb5 := (fa.block (w.heap.size + 1) lz2 (by omega)).trans ZB2.out
    have c1 := cell_of_block r5.hd 1
    have l5 := lt_of_block r5.hd
    have s2 := cell_of_block zb5 2
    have lz5 := lt_of_block zb5
    rw [show (#[Value.slice (some ⟨g, 0, none⟩) m cap, .map (some mb), .int .i64 last] : Array Value)[1]? = some (.map (some mb)) from rfl] at c1
    rw [show (#[Value.int .u64 z.d, .int .u64 z.what, .int .i64 z.h] : Array Value)[2]? = some (.int .i64 z.h) from rfl] at s2
    have hlook := r5.map.look1 keyI Tryd.underlying79 (zeroI W5) (wf_i64 (x := z.h) (by omega))
    rw [hMz, Option.getD_some] at hlook
    have F5 := Lib.hid f5
    refine stillTail 8 (by kernel_rfl) (by kernel_rfl) hW5 ?_
    clear hW5 f5 r5 fa zb5 hMz
    simp only [List.take_succ_cons, List.take_zero, List.drop_succ_cons, List.drop_zero]
    repeat still_step
    refine wpStill_nil ?_
    go_wp2_with fail
    refine (HDW.out _ F5.out).mono ?_
    rintro e w6 ⟨rfl, L6, M6, hr6, hp6, hpos6, hh6, hf6⟩
    have fall : Fr (fun k => k = g ∨ k = mb) w2 w6 := (F4.out.trans (F5.out.mono (fun _ _ h => h.elim))).trans hf6
    have tb6 := (fall.block w.heap.size lt2 (by omega)).trans TB2.out
    have u1 := cell_of_block tb6 1
    have l6 := lt_of_block tb6
    rw [show (#[Value.int .u64 t.d, .int .u64 t.what, .int .i64 t.h] : Array Value)[1]? = some (.int .u64 t.what) from rfl] at u1
    have R6 := Lib.hid hr6
    have P6 := Lib.hid (hp6.trans HP4.out)
    have POS6 := Lib.hid hpos6
    have H66 := Lib.hid hh6
    have FALL := Lib.hid fall
    clear hr6 hp6 hpos6 hh6 hf6 fall tb6 hlook c1 s2
    go_wp2
    go_ret2
    have hl6 : L6.length = m := R6.out.len
    have htS : t ∈ S := H6.out.mem_iff.1 (List.mem_of_getElem? HI.out)
    refine ⟨rfl, .slice (some ⟨g, 0, none⟩) m cap, ⟨L6, M6, R6.out.hd, by rw [hl6]; exact R6.out.own, by rw [hl6]; exact R6.out.map, POS6.out, by rw [hl6]; exact H66.out, ?_, woH_srt H7.out _, woH_hs H8.out _, fun x hx => H9.out x (List.mem_filter.1 hx).1, h10, Nat.le_trans (List.length_filter_le _ _) h11⟩, fun k hk => hk, ?_⟩
    · refine P6.out.trans ?_
      have h1 := (fill_perm (z := z) HIL.out).trans H6.out
      exact (h1.trans (woH_perm H8.out htS).symm).cons_inv
    · refine (F2.out.mono (fun k _ hk => ?_)).trans (FALL.out.mono (fun k _ hk => ?_))
      · rcases hk with rfl | rfl
        · exact .inl rfl
        · exact .inr (.inl rfl)
      · rcases hk with rfl | rfl
        · exact .inr (.inr rfl)
        · exact .inr (.inl rfl)
  · have i2 : ¬ (i : Int) < (m : Int) := by omega
    have d1 : decide (i < m) = false := by simpa using him
    go_wp2_with (at_delete; go_loud (refine wpList_delete_mapIs rfl _ _ 79 3 rfl 3 .i64 keyI Tryd.underlying79 mb (m + 1) M rfl MW.out t.h rfl hwf ?_; intro w2 hmap2 hf2; obtain ⟨hrow2, hfr2⟩ := drop_row HB.out HO.out HMP.out HM.out H6.out H9.out h10 hml HMT.out FW.out hmap2 hf2; have tb2 := (hf2.block w.heap.size (lt_of_block TB.out.1) (by omega)).trans TB.out.1; have zb2 := (hf2.block (w.heap.size + 1) (lt_of_block TB.out.2) (by omega)).trans TB.out.2; have R2 := Lib.hid hrow2; have F2 := Lib.hid hfr2; have TB2 := Lib.hid tb2; have ZB2 := Lib.hid zb2; have u1 := cell_of_block tb2 1; have lt2 := lt_of_block tb2; have lz2 := lt_of_block zb2; have s0 := cell_of_block zb2 0; have s1 := cell_of_block zb2 1; have s2 := cell_of_block zb2 2; clear hmap2 hf2 hrow2 hfr2 tb2 zb2))
    go_ret2
    have hei : i = m := by have := HIM.out; omega
    have hz : t = z := by
      have := HI.out
      rw [hei, List.getElem?_append_right (by rw [HM.out]; exact Nat.le_refl _), HM.out] at this
      simpa using this.symm
    have htS : t ∈ S := H6.out.mem_iff.1 (List.mem_of_getElem? HI.out)
    refine ⟨rfl, .slice (some ⟨g, 0, none⟩) m cap, ⟨L1, mapDn M t.h, R2.out.hd, by rw [HM.out]; exact R2.out.own, by rw [HM.out]; exact R2.out.map, ?_, ?_, ?_, woH_srt H7.out _, woH_hs H8.out _, fun x hx => H9.out x (List.mem_filter.1 hx).1, h10, Nat.le_trans (List.length_filter_le _ _) h11⟩, fun k hk => hk, F2.out.mono (fun k _ hk => ?_)⟩
    · rw [hz]; exact pop_pos HPOS.out (H8.out.perm H6.out)
    · rw [HM.out]
      exact (HHP.out.less (Nat.le_succ m)).congr (fun j hj => by unfold fn; rw [List.getD_eq_getElem?_getD, List.getD_eq_getElem?_getD, List.getElem?_append_left (by rw [HM.out]; exact hj)])
    · have h1 := (List.perm_append_singleton z L1).symm.trans H6.out
      rw [← hz] at h1
      exact (h1.trans (woH_perm H8.out htS).symm).cons_inv
    · rcases hk with rfl | rfl
      · exact .inl rfl
      · exact .inr (.inl rfl)

end Go.Proofs.YtafeopcbfgmjkaaDoor
