/- A heap: making one, putting in. -/
import Derived.Test.YtafeopcbfgmjkaaDoorHeapQ
import Derived.Deep.AppendLies
namespace Go.Proofs.YtafeopcbfgmjkaaDoor
open Go.RowKit Go.Maps

theorem thInfo : (Tryd.prog.info? 84).map (fun i => (i.zero, i.size, i.bytes)) = some (some (thV ⟨0, 0, 0⟩), 3, 24) := by kernel_rfl
/-- Block hb is a heap: v its things' slice, mb their places; in order they are S. -/
def HeapRep (w : World) (hb mb : Nat) (v : Value) (S : List Th) (last : Nat) : Prop :=
  ∃ (L : List Th) (M : Int → Option Value), w.heap[hb]? = some (.cells #[v, .map (some mb), .int .i64 last] 82 (0, 0)) ∧ w.ownsRow 0 84 3 v L.length (L.flatMap thC) ∧
    MapIs Tryd.prog 3 .i64 w mb L.length M ∧ Pos M L ∧ Hp (fn L) L.length ∧ L.Perm S ∧ Srt S ∧ Hs S ∧
    (∀ t ∈ S, t.d < 18446744073709551616 ∧ t.what < 18446744073709551616 ∧ 1 ≤ t.h ∧ t.h ≤ last) ∧ last ≤ 100000 ∧ S.length ≤ 100000
/-- Its blocks. -/
def hOwn (hb mb : Nat) (v : Value) (k : Nat) : Prop := k = hb ∨ k = mb ∨ v.ownBlock = some k
theorem own_kept {w w' : World} {S : Nat → Prop} {base : Nat} {e : TypeId} {size n : Nat} {v : Value} {xs : List Value} (h : w.ownsRow base e size v n xs) (f : Fr S w w') (hs : ∀ k, v.ownBlock = some k → ¬ S k) : w'.ownsRow base e size v n xs := by
  refine ⟨h.1, ?_⟩
  rcases h.2 with h2 | ⟨g, cap, cur, hv, hg, hh, r⟩
  · exact .inl h2
  · exact .inr ⟨g, cap, cur, hv, hg, by rw [f.block g (lt_of_block hh) (hs g (by rw [hv]; rfl))]; exact hh, r⟩
theorem HeapRep.keep {w w' : World} {hb mb : Nat} {v : Value} {S : List Th} {last : Nat} {T : Nat → Prop} (h : HeapRep w hb mb v S last) (f : Fr T w w') (hs : ∀ k, hOwn hb mb v k → ¬ T k) : HeapRep w' hb mb v S last := by
  obtain ⟨L, M, h1, h2, h3, h4⟩ := h
  exact ⟨L, M, by rw [f.block hb (lt_of_block h1) (hs _ (.inl rfl))]; exact h1, own_kept h2 f (fun k hk => hs _ (.inr (.inr hk))), h3.keep f (hs _ (.inr (.inl rfl))), h4⟩
theorem HeapRep.new {w w' : World} {hb mb : Nat} {v : Value} {S : List Th} {last : Nat} (h : HeapRep w hb mb v S last) (f : New w w') : HeapRep w' hb mb v S last := h.keep f (fun _ _ => id)
theorem HeapRep.lt {w : World} {hb mb : Nat} {v : Value} {S : List Th} {last : Nat} (h : HeapRep w hb mb v S last) {k : Nat} (hk : hOwn hb mb v k) : k < w.heap.size := by
  obtain ⟨L, M, h1, h2, h3, _⟩ := h
  rcases hk with rfl | rfl | hk
  · exact lt_of_block h1
  · exact h3.lt
  · exact (h2.lt k hk).2

set_option maxRecDepth 100000 in
set_option maxHeartbeats 1000000 in
theorem hnew_any (w : World) : Calls Tryd.prog 21 #[] w fun e w' => ∃ hb mb, e = .returned (.pointer (some ⟨hb, 0, none⟩)) ∧ w.heap.size ≤ hb ∧ w.heap.size ≤ mb ∧ HeapRep w' hb mb (.slice none 0 0) [] 0 ∧ New w w' := by
  have hmm := @run_makeMap Tryd.prog
  go_enter Tryd.func21, Tryd.ntmps21
  go_wp2
  go_ret
  refine ⟨_, _, rfl, by simp, Nat.le_refl _, ⟨[], fun _ => none, block_alloc_new1 _ _ _, World.ownsRow_nil _ _ _ _, ?_, ⟨fun j a h => by simp at h, fun x h => by simp at h⟩, fun j j0 jn => by simp at jn, List.Perm.refl _, List.Pairwise.nil, List.Pairwise.nil, fun t h => by simp at h, by omega, by simp⟩, ((Fr.refl _ _).alloc _).alloc _⟩
  exact (MapIs.made Tryd.prog 3 .i64 w).keep ((Fr.refl (fun _ => False) _).alloc _) id

theorem own_apart {w : World} {b : Nat} {v : Value} {n : Nat} {xs : List Value} {cs : Array Value} {T : TypeId} {z : Nat × Nat} (h : w.ownsRow 0 84 3 v n xs) (hb : w.heap[b]? = some (.cells cs T z)) (hT : T ≠ 84) : ∀ k, v.ownBlock = some k → k ≠ b := by
  rintro k hk rfl
  rcases h.2 with ⟨rfl, _⟩ | ⟨g, cap, cur, rfl, _, hg, _⟩
  · cases hk
  · obtain rfl : g = k := by simpa [Value.ownBlock] using hk
    rw [hb, Option.some.injEq, Obj.cells.injEq] at hg
    exact absurd hg.2.1 hT
theorem own_apart_map {P : Program} {K : TypeId} {q : IntKind} {f : Int → Option Value} {w : World} {b c : Nat} {v : Value} {n : Nat} {xs : List Value} (h : w.ownsRow 0 84 3 v n xs) (hm : MapIs P K q w b c f) : ∀ k, v.ownBlock = some k → k ≠ b := by
  rintro k hk rfl
  rcases h.2 with ⟨rfl, _⟩ | ⟨g, cap, cur, rfl, _, hg, _⟩
  · cases hk
  · obtain rfl : g = k := by simpa [Value.ownBlock] using hk
    exact hm.apart hg rfl
/-- The row one longer, in its place. -/
theorem put_row {w W1 w2 : World} {hb mb g cap last : Nat} {v : Value} {L S : List Th} {M : Int → Option Value} {t : Th} (hb0 : w.heap[hb]? = some (.cells #[v, .map (some mb), .int .i64 last] 82 (0, 0))) (hm : MapIs Tryd.prog 3 .i64 w mb L.length M) (f1 : Fr (· = hb) w W1)
    (ho : W1.ownsRow 0 84 3 v L.length (L.flatMap thC)) (f2 : Fr (fun k => v.ownBlock = some k) W1 w2) (hb2 : w2.heap[hb]? = some (.cells #[v, .map (some mb), .int .i64 ((last + 1 : Nat) : Int)] 82 (0, 0)))
    (hown : w2.ownsRow 0 84 3 (.slice (some ⟨g, 0, none⟩) (L.length + 1) cap) (L.length + 1) (L.flatMap thC ++ thC t)) (hp : L.Perm S) (hf : ∀ x ∈ S, x.d < 18446744073709551616 ∧ x.what < 18446744073709551616 ∧ 1 ≤ x.h ∧ x.h ≤ last) (ht : t.d < 18446744073709551616 ∧ t.what < 18446744073709551616 ∧ t.h = last + 1) (hl : last < 50000) (hn : L.length ≤ 50000) :
    HRow (w2.setCell ⟨hb, 0, none⟩ (.slice (some ⟨g, 0, none⟩) (L.length + 1) cap)) hb g mb (L.length + 1) cap (L ++ [t]) (last + 1) L.length M ∧ (hb < w.heap.size → mb < w.heap.size → Fr (hOwn hb mb v) w (w2.setCell ⟨hb, 0, none⟩ (.slice (some ⟨g, 0, none⟩) (L.length + 1) cap))) := by
  have f3 : Fr (· = hb) w2 (w2.setCell ⟨hb, 0, none⟩ (.slice (some ⟨g, 0, none⟩) (L.length + 1) cap)) := (Fr.refl (· = hb) w2).setCell (fun _ => rfl) _
  have m1 := hm.keep f1 (hm.apart hb0)
  have m2 := m1.keep f2 (fun e => own_apart_map ho m1 _ e rfl)
  refine ⟨⟨block_setCell hb2 _, ?_, m2.keep f3 (hm.apart hb0), fun x hx => ?_, by omega, by omega, by omega⟩, fun _ _ => ((f1.mono (fun k _ hk => .inl hk)).trans (f2.mono (fun k _ hk => .inr (.inr hk)))).trans (f3.mono (fun k _ hk => .inl hk))⟩
  · rw [List.flatMap_append, show [t].flatMap thC = thC t by simp]
    exact own_kept hown f3 (own_apart hown hb2 (by decide))
  · rcases List.mem_append.1 hx with hx | hx
    · have := hf x (hp.mem_iff.1 hx); omega
    · rw [List.mem_singleton.1 hx]; omega

set_option maxRecDepth 100000 in
set_option maxHeartbeats 4000000 in
theorem hput_any (hb mb : Nat) (v : Value) (S : List Th) (last d x : Nat) (w : World) (h : HeapRep w hb mb v S last) (hl : last < 50000) (hsl : S.length < 50000) (hd : d < 18446744073709551616) (hx : x < 18446744073709551616) :
    Calls Tryd.prog 22 #[.pointer (some ⟨hb, 0, none⟩), .int .u64 d, .int .u64 x] w fun e w' => e = .returned (.int .i64 ((last + 1 : Nat) : Int)) ∧ ∃ v', HeapRep w' hb mb v' (ins ⟨d, x, last + 1⟩ S) (last + 1) ∧ (∀ k, v'.ownBlock = some k → v.ownBlock = some k ∨ w.heap.size ≤ k) ∧ Fr (hOwn hb mb v) w w' := by
  obtain ⟨L, M, h1, h2, h3, h4, h5, h6, h7, h8, h9, h10, h11⟩ := id h
  obtain ⟨i0, hi, hz0, hz1, hz2⟩ := info_parts thInfo
  have l1 := lt_of_block h1
  have c2 := cell_of_block h1 2
  rw [show (#[v, .map (some mb), Value.int .i64 last] : Array Value)[2]? = some (.int .i64 last) from rfl] at c2
  have z2 := free_of_block h1 2
  obtain ⟨n, hn⟩ : ∃ n, L.length = n := ⟨_, rfl⟩
  have hnl : n ≤ 50000 := by rw [← hn, h6.length_eq]; omega
  have hvb : ∀ k, v.ownBlock = some k → k ≠ hb := by
    rintro k hk rfl
    rcases h2.2 with ⟨rfl, _⟩ | ⟨g, cap, cur, rfl, _, hg, _⟩
    · cases hk
    · obtain rfl : g = k := by simpa [Value.ownBlock] using hk
      rw [h1, Option.some.injEq, Obj.cells.injEq] at hg
      exact absurd hg.2.1 (by decide)
  have H := Lib.hid h
  have HN := Lib.hid hn
  have HB := Lib.hid h1
  have HO := Lib.hid h2
  have HM := Lib.hid h3
  have HP := Lib.hid h4
  have HH := Lib.hid h5
  have H6 := Lib.hid h6
  have H7 := Lib.hid h7
  have H8 := Lib.hid h8
  have H9 := Lib.hid h9
  have HVB := Lib.hid hvb
  clear h h1 h2 h3 h4 h5 h6 h7 h8 h9 h10 h11 hn hvb
  go_enter Tryd.func22, Tryd.ntmps22
  go_wp2_with fail
  rw [show (last : Int) + 1 = ((last + 1 : Nat) : Int) by omega]
  obtain ⟨W1, hW1⟩ : ∃ W1, (w.setCell ⟨hb, 2, none⟩ (.int .i64 ((last + 1 : Nat) : Int))).drew = W1 := ⟨_, rfl⟩
  have hb1 : W1.heap[hb]? = some (.cells #[v, .map (some mb), .int .i64 ((last + 1 : Nat) : Int)] 82 (0, 0)) := by rw [← hW1]; exact block_setCell HB.out _
  have f1 : Fr (· = hb) w W1 := by rw [← hW1]; exact ((Fr.refl (· = hb) w).setCell (fun _ => rfl) _).drew
  have y0 := cell_of_block hb1 0
  have y2 := cell_of_block hb1 2
  have yz := free_of_block hb1 0
  have ly := lt_of_block hb1
  rw [show (#[v, .map (some mb), Value.int .i64 ((last + 1 : Nat) : Int)] : Array Value)[0]? = some v from rfl] at y0
  rw [show (#[v, .map (some mb), Value.int .i64 ((last + 1 : Nat) : Int)] : Array Value)[2]? = some (.int .i64 ((last + 1 : Nat) : Int)) from rfl] at y2
  have HO1 := Lib.hid (own_kept HO.out f1 HVB.out)
  have HB1 := Lib.hid hb1
  have F1 := Lib.hid f1
  clear c2 z2
  refine heldStart (fun W => W.cell? ⟨hb, 2, none⟩ = some (.int .i64 ((last + 1 : Nat) : Int))) (by kernel_rfl) ?_
  rw [show (w.setCell ⟨hb, 2, none⟩ (.int .i64 ((last + 1 : Nat) : Int))).drew = W1 from hW1]
  clear hW1 hb1 f1
  refine wpAnyH_take (i := 0) (v := ?_) rfl (by kernel_rfl) (by kernel_rfl) (by kernel_rfl) (fun _ _ _ h => h) (Or.inl ⟨by rfl, ?_⟩) y2 ?_
  rotate_left
  · intro w hSw; first | (obtain ⟨s1, s2, s3, s4, s5, s6, s7⟩ := hSw; go_simp; rfl) | (obtain ⟨s1, s2, s3⟩ := hSw; go_simp; rfl) | (obtain ⟨s1, s2⟩ := hSw; go_simp; rfl) | (have s1 := hSw; go_simp; rfl)
  go_simp
  refine wpAnyH_take (i := 1) (v := ?_) rfl (by kernel_rfl) (by kernel_rfl) (by kernel_rfl) (fun _ _ _ h => h) (Or.inl ⟨by rfl, ?_⟩) y2 ?_
  rotate_left
  · intro w hSw; first | (obtain ⟨s1, s2, s3, s4, s5, s6, s7⟩ := hSw; go_simp; rfl) | (obtain ⟨s1, s2, s3⟩ := hSw; go_simp; rfl) | (obtain ⟨s1, s2⟩ := hSw; go_simp; rfl) | (have s1 := hSw; go_simp; rfl)
  go_simp
  refine wpAnyH_take (i := 2) (v := ?_) rfl (by kernel_rfl) (by kernel_rfl) (by kernel_rfl) (fun _ _ _ h => h) (Or.inl ⟨by rfl, ?_⟩) y2 ?_
  rotate_left
  · intro w hSw; first | (obtain ⟨s1, s2, s3, s4, s5, s6, s7⟩ := hSw; go_simp; rfl) | (obtain ⟨s1, s2, s3⟩ := hSw; go_simp; rfl) | (obtain ⟨s1, s2⟩ := hSw; go_simp; rfl) | (have s1 := hSw; go_simp; rfl)
  go_simp
  refine wpAnyH_take (i := 3) (v := ?_) rfl (by kernel_rfl) (by kernel_rfl) (by kernel_rfl) (fun _ _ _ h => h) (Or.inl ⟨by rfl, ?_⟩) y2 ?_
  rotate_left
  · intro w hSw; first | (obtain ⟨s1, s2, s3, s4, s5, s6, s7⟩ := hSw; go_simp; rfl) | (obtain ⟨s1, s2, s3⟩ := hSw; go_simp; rfl) | (obtain ⟨s1, s2⟩ := hSw; go_simp; rfl) | (have s1 := hSw; go_simp; rfl)
  go_simp
  refine wpAnyH_take (i := 5) (v := ?_) rfl (by kernel_rfl) (by kernel_rfl) (by kernel_rfl) (fun _ _ _ h => h) (Or.inl ⟨by rfl, ?_⟩) y2 ?_
  rotate_left
  · intro w hSw; first | (obtain ⟨s1, s2, s3, s4, s5, s6, s7⟩ := hSw; go_simp; rfl) | (obtain ⟨s1, s2, s3⟩ := hSw; go_simp; rfl) | (obtain ⟨s1, s2⟩ := hSw; go_simp; rfl) | (have s1 := hSw; go_simp; rfl)
  go_simp
  refine wpAnyH_take (i := 6) (v := ?_) rfl (by kernel_rfl) (by kernel_rfl) (by kernel_rfl) (fun _ _ _ h => h) (Or.inl ⟨by rfl, ?_⟩) y2 ?_
  rotate_left
  · intro w hSw; first | (obtain ⟨s1, s2, s3, s4, s5, s6, s7⟩ := hSw; go_simp; rfl) | (obtain ⟨s1, s2, s3⟩ := hSw; go_simp; rfl) | (obtain ⟨s1, s2⟩ := hSw; go_simp; rfl) | (have s1 := hSw; go_simp; rfl)
  go_simp
  refine wpAnyH_take (i := 7) (v := ?_) rfl (by kernel_rfl) (by kernel_rfl) (by kernel_rfl) (fun _ _ _ h => h) (Or.inl ⟨by rfl, ?_⟩) y2 ?_
  rotate_left
  · intro w hSw; first | (obtain ⟨s1, s2, s3, s4, s5, s6, s7⟩ := hSw; go_simp; rfl) | (obtain ⟨s1, s2, s3⟩ := hSw; go_simp; rfl) | (obtain ⟨s1, s2⟩ := hSw; go_simp; rfl) | (have s1 := hSw; go_simp; rfl)
  go_simp
  refine wpAnyH_take (i := 8) (v := ?_) rfl (by kernel_rfl) (by kernel_rfl) (by kernel_rfl) (fun _ _ _ h => h) (Or.inl ⟨by rfl, ?_⟩) y2 ?_
  rotate_left
  · intro w hSw; first | (obtain ⟨s1, s2, s3, s4, s5, s6, s7⟩ := hSw; go_simp; rfl) | (obtain ⟨s1, s2, s3⟩ := hSw; go_simp; rfl) | (obtain ⟨s1, s2⟩ := hSw; go_simp; rfl) | (have s1 := hSw; go_simp; rfl)
  go_simp
  refine wpAnyH_take (i := 9) (v := ?_) rfl (by kernel_rfl) (by kernel_rfl) (by kernel_rfl) (fun _ _ _ h => h) (Or.inl ⟨by rfl, ?_⟩) y2 ?_
  rotate_left
  · intro w hSw; first | (obtain ⟨s1, s2, s3, s4, s5, s6, s7⟩ := hSw; go_simp; rfl) | (obtain ⟨s1, s2, s3⟩ := hSw; go_simp; rfl) | (obtain ⟨s1, s2⟩ := hSw; go_simp; rfl) | (have s1 := hSw; go_simp; rfl)
  go_simp
  refine wpAnyH_take (i := 10) (v := ?_) rfl (by kernel_rfl) (by kernel_rfl) (by kernel_rfl) (fun _ _ _ h => h) (Or.inl ⟨by rfl, ?_⟩) y2 ?_
  rotate_left
  · intro w hSw; first | (obtain ⟨s1, s2, s3, s4, s5, s6, s7⟩ := hSw; go_simp; rfl) | (obtain ⟨s1, s2, s3⟩ := hSw; go_simp; rfl) | (obtain ⟨s1, s2⟩ := hSw; go_simp; rfl) | (have s1 := hSw; go_simp; rfl)
  go_simp
  refine wpAnyH_take (i := 11) (v := ?_) rfl (by kernel_rfl) (by kernel_rfl) (by kernel_rfl) (fun _ _ _ h => h) (Or.inl ⟨by rfl, ?_⟩) y2 ?_
  rotate_left
  · intro w hSw; first | (obtain ⟨s1, s2, s3, s4, s5, s6, s7⟩ := hSw; go_simp; rfl) | (obtain ⟨s1, s2, s3⟩ := hSw; go_simp; rfl) | (obtain ⟨s1, s2⟩ := hSw; go_simp; rfl) | (have s1 := hSw; go_simp; rfl)
  go_simp
  -- what stands behind the append
  have HAP := Lib.hid (fun (g cap : Nat) (w2 : World) (hown : w2.ownsRow 0 84 3 (.slice (some ⟨g, 0, none⟩) (L.length + 1) cap) (L.length + 1) (L.flatMap thC ++ thC ⟨d, x, last + 1⟩)) (hgrow : (W1.alloc (.cells #[.int .u64 d, .int .u64 x, .int .i64 ((last + 1 : Nat) : Int)] 84)).grownBy w2 v.ownBlock) (hg : v.ownBlock = some g ∨ g = (W1.alloc (.cells #[.int .u64 d, .int .u64 x, .int .i64 ((last + 1 : Nat) : Int)] 84)).heap.size) =>
    show Fr (fun k => v.ownBlock = some k) W1 w2 ∧ w2.heap[hb]? = some (.cells #[v, .map (some mb), .int .i64 ((last + 1 : Nat) : Int)] 82 (0, 0)) from by
      have hf : Fr (fun k => v.ownBlock = some k) W1 w2 := ((Fr.refl _ W1).alloc _).grown hgrow (fun k hk _ => hk)
      exact ⟨hf, by rw [hf.block hb ly (fun e => HVB.out _ e rfl)]; exact HB1.out⟩)
  have HLN := Lib.hid (show (L.flatMap thC).length = L.length * 3 from len_flatMap thC 3 thC_len L)
  refine heldEither (i := 4) (j := 12) (by kernel_rfl) rfl rfl (by rfl) (by rfl) (fun K hK => ?_) (fun K hK => ?_)
  · go_simp
    refine hK.out _ _ y2 ?_
    clear hK K
    refine heldOne (i := 12) (by kernel_rfl) rfl (by rfl) (fun K hK => ?_)
    go_simp
    refine hK.out _ _ (by first | exact y2 | (rw [World.cell?_alloc_past _ _ _ (by exact ly)]; exact y2)) ?_
    clear hK K
    refine heldOne (i := 13) (by kernel_rfl) rfl (by rfl) (fun K hK => ?_)
    refine wp_append_lies _ (.tmp 18) (.tmp 26) 80 rfl 0 84 i0 _ 3 24 Tryd.underlying80 hi hz0 hz1 hz2 rfl (by decide) _ _ _ rfl (HO1.out.alloc _) ⟨W1.heap.size, 0, none⟩ 1 1 (thC ⟨d, x, last + 1⟩) rfl rfl (Arr.add (Arr.new _ _ _)) (by simp [thC, Value.oneCell']) (by omega) (by unfold maxLen; rw [HN.out]; omega) (by rw [HN.out]; omega) (Nat.zero_le _) _ rfl ?_
    intro g cap w2 hown hgrow hg hlt
    obtain ⟨hf2, hb2⟩ := HAP.out g cap w2 hown hgrow hg
    have e2 := cell_of_block hb2 2
    have e0 := cell_of_block hb2 0
    have ez := free_of_block hb2 0
    rw [show (#[v, .map (some mb), Value.int .i64 ((last + 1 : Nat) : Int)] : Array Value)[0]? = some v from rfl] at e0
    have HOWN := Lib.hid hown
    have HF2 := Lib.hid hf2
    have HB2 := Lib.hid hb2
    have HGG := Lib.hid hg
    refine hK.out _ _ e2 ?_
    clear hK K hown hgrow hg hf2 hb2
    refine wpAnyH_take (i := 14) (v := ?_) rfl (by kernel_rfl) (by kernel_rfl) (by kernel_rfl) (fun _ _ _ h => h) (Or.inl ⟨by rfl, ?_⟩) e2 ?_
    rotate_left
    · intro w hSw; first | (obtain ⟨s1, s2, s3, s4, s5, s6, s7⟩ := hSw; go_simp; rfl) | (obtain ⟨s1, s2, s3⟩ := hSw; go_simp; rfl) | (obtain ⟨s1, s2⟩ := hSw; go_simp; rfl) | (have s1 := hSw; go_simp; rfl)
    go_simp
    refine wpAnyH_take (i := 15) (v := ?_) rfl (by kernel_rfl) (by kernel_rfl) (by kernel_rfl) (fun _ _ _ h => h) (Or.inl ⟨by rfl, ?_⟩) e2 ?_
    rotate_left
    · intro w hSw; first | (obtain ⟨s1, s2, s3, s4, s5, s6, s7⟩ := hSw; go_simp; rfl) | (obtain ⟨s1, s2, s3⟩ := hSw; go_simp; rfl) | (obtain ⟨s1, s2⟩ := hSw; go_simp; rfl) | (have s1 := hSw; go_simp; rfl)
    go_simp
    refine heldOne (i := 16) (by kernel_rfl) rfl (by rfl) (fun K hK => ?_)
    go_simp
    obtain ⟨hrow, hfr⟩ := put_row (t := ⟨d, x, last + 1⟩) HB.out HM.out F1.out HO1.out HF2.out HB2.out HOWN.out H6.out H9.out ⟨hd, hx, rfl⟩ hl (by rw [HN.out]; exact hnl)
    have HROW := Lib.hid hrow
    have HFR := Lib.hid (hfr l1 HM.out.lt)
    refine hK.out _ _ ((cell_set_ne _ (.inr (by omega))).trans e2) ?_
    have HGG := Lib.hid (show ∀ k, (Value.slice (some ⟨g, 0, none⟩) (L.length + 1) cap).ownBlock = some k → v.ownBlock = some k ∨ w.heap.size ≤ k from fun k hk => by
      obtain rfl : g = k := by simpa [Value.ownBlock] using hk
      rcases HGG.out with h | h
      · exact .inl h
      · have := F1.out.size; rw [World.size_alloc] at h; right; omega)
    clear hK K hrow hfr e2 e0 ez HOWN HF2 HB2
    generalize w2.setCell ⟨hb, 0, none⟩ (.slice (some ⟨g, 0, none⟩) (L.length + 1) cap) = W3 at HROW HFR ⊢
    refine wpAnyH_done (by kernel_rfl) ?_ _
    have hne : ∀ y ∈ L, y.h ≠ (⟨d, x, last + 1⟩ : Th).h := fun y hy => by have := H9.out y (H6.out.mem_iff.1 hy); show y.h ≠ last + 1; omega
    have hup := up_any hb g mb (L.length + 1) cap (L ++ [⟨d, x, last + 1⟩]) (last + 1) L.length M L.length ⟨d, x, last + 1⟩ W3 HROW.out (by rw [List.getElem?_append_right (Nat.le_refl _)]; simp) (snoc_hs (H8.out.perm H6.out) hne) (snoc_pl HP.out hne) (snoc_up HH.out _)
    have HUP := Lib.hid hup
    have c0 := cell_of_block HROW.out.hd 0
    have l3 := lt_of_block HROW.out.hd
    have b1 : ((L.length : Int) + 1) ≤ 1000000 := by rw [HN.out]; omega
    clear hup hne y0 y2 yz ly
    rw [show (#[Value.slice (some ⟨g, 0, none⟩) (L.length + 1) cap, .map (some mb), Value.int .i64 ((last + 1 : Nat) : Int)] : Array Value)[0]? = some (.slice (some ⟨g, 0, none⟩) (L.length + 1) cap) from rfl] at c0
    go_wp2_with fail
    refine HUP.out.mono ?_
    rintro e w4 ⟨rfl, L', M', i', hr4, hp4, hpos, hi', hdn, hch, hf4⟩
    have c2 := cell_of_block hr4.hd 2
    have l4 := lt_of_block hr4.hd
    rw [show (#[Value.slice (some ⟨g, 0, none⟩) (L.length + 1) cap, .map (some mb), Value.int .i64 ((last + 1 : Nat) : Int)] : Array Value)[2]? = some (.int .i64 ((last + 1 : Nat) : Int)) from rfl] at c2
    have HR4 := Lib.hid hr4
    have HP4 := Lib.hid hp4
    have HPOS := Lib.hid hpos
    have HDN := Lib.hid (hdn.heap (hch (snoc_ch L _)))
    have HF4 := Lib.hid hf4
    clear hr4 hp4 hpos hi' hdn hch hf4 HUP c0
    go_wp2
    go_ret
    have hlen : L'.length = L.length + 1 := by rw [HP4.out.length_eq]; simp
    refine ⟨by first | rfl | (congr 1), .slice (some ⟨g, 0, none⟩) (L.length + 1) cap, ⟨L', M', HR4.out.hd, by rw [hlen]; exact HR4.out.own, by rw [hlen]; exact HR4.out.map, HPOS.out, by rw [hlen]; exact HDN.out, ?_, ins_srt H7.out (fun y hy => by have := H9.out y hy; show y.h < last + 1; omega), ins_hs H8.out (fun y hy => by have := H9.out y hy; show y.h < last + 1; omega), ?_, by omega, by rw [ins_len]; omega⟩, ?_, ?_⟩
    · exact (HP4.out.trans (List.perm_append_singleton _ _)).trans (((H6.out.cons _)).trans (ins_perm _ _).symm)
    · intro y hy
      rcases ins_mem.1 hy with rfl | hy
      · exact ⟨hd, hx, by show 1 ≤ last + 1; omega, Nat.le_refl _⟩
      · have := H9.out y hy; omega
    · exact HGG.out
    · refine HFR.out.then HF4.out (fun k hk e => ?_)
      rcases e with rfl | rfl
      · rcases HGG.out k rfl with h | h
        · exact .inr (.inr h)
        · omega
      · exact .inr (.inl rfl)
  · go_simp
    refine hK.out _ _ (by first | exact y2 | (rw [World.cell?_alloc_past _ _ _ (by exact ly)]; exact y2)) ?_
    clear hK K
    refine heldOne (i := 4) (by kernel_rfl) rfl (by rfl) (fun K hK => ?_)
    go_simp
    refine hK.out _ _ (by first | exact y2 | (rw [World.cell?_alloc_past _ _ _ (by exact ly)]; exact y2)) ?_
    clear hK K
    refine heldOne (i := 13) (by kernel_rfl) rfl (by rfl) (fun K hK => ?_)
    refine wp_append_lies _ (.tmp 18) (.tmp 26) 80 rfl 0 84 i0 _ 3 24 Tryd.underlying80 hi hz0 hz1 hz2 rfl (by decide) _ _ _ rfl (HO1.out.alloc _) ⟨W1.heap.size, 0, none⟩ 1 1 (thC ⟨d, x, last + 1⟩) rfl rfl (Arr.add (Arr.new _ _ _)) (by simp [thC, Value.oneCell']) (by omega) (by unfold maxLen; rw [HN.out]; omega) (by rw [HN.out]; omega) (Nat.zero_le _) _ rfl ?_
    intro g cap w2 hown hgrow hg hlt
    obtain ⟨hf2, hb2⟩ := HAP.out g cap w2 hown hgrow hg
    have e2 := cell_of_block hb2 2
    have e0 := cell_of_block hb2 0
    have ez := free_of_block hb2 0
    rw [show (#[v, .map (some mb), Value.int .i64 ((last + 1 : Nat) : Int)] : Array Value)[0]? = some v from rfl] at e0
    have HOWN := Lib.hid hown
    have HF2 := Lib.hid hf2
    have HB2 := Lib.hid hb2
    have HGG := Lib.hid hg
    refine hK.out _ _ e2 ?_
    clear hK K hown hgrow hg hf2 hb2
    refine wpAnyH_take (i := 14) (v := ?_) rfl (by kernel_rfl) (by kernel_rfl) (by kernel_rfl) (fun _ _ _ h => h) (Or.inl ⟨by rfl, ?_⟩) e2 ?_
    rotate_left
    · intro w hSw; first | (obtain ⟨s1, s2, s3, s4, s5, s6, s7⟩ := hSw; go_simp; rfl) | (obtain ⟨s1, s2, s3⟩ := hSw; go_simp; rfl) | (obtain ⟨s1, s2⟩ := hSw; go_simp; rfl) | (have s1 := hSw; go_simp; rfl)
    go_simp
    refine wpAnyH_take (i := 15) (v := ?_) rfl (by kernel_rfl) (by kernel_rfl) (by kernel_rfl) (fun _ _ _ h => h) (Or.inl ⟨by rfl, ?_⟩) e2 ?_
    rotate_left
    · intro w hSw; first | (obtain ⟨s1, s2, s3, s4, s5, s6, s7⟩ := hSw; go_simp; rfl) | (obtain ⟨s1, s2, s3⟩ := hSw; go_simp; rfl) | (obtain ⟨s1, s2⟩ := hSw; go_simp; rfl) | (have s1 := hSw; go_simp; rfl)
    go_simp
    refine heldOne (i := 16) (by kernel_rfl) rfl (by rfl) (fun K hK => ?_)
    go_simp
    obtain ⟨hrow, hfr⟩ := put_row (t := ⟨d, x, last + 1⟩) HB.out HM.out F1.out HO1.out HF2.out HB2.out HOWN.out H6.out H9.out ⟨hd, hx, rfl⟩ hl (by rw [HN.out]; exact hnl)
    have HROW := Lib.hid hrow
    have HFR := Lib.hid (hfr l1 HM.out.lt)
    refine hK.out _ _ ((cell_set_ne _ (.inr (by omega))).trans e2) ?_
    have HGG := Lib.hid (show ∀ k, (Value.slice (some ⟨g, 0, none⟩) (L.length + 1) cap).ownBlock = some k → v.ownBlock = some k ∨ w.heap.size ≤ k from fun k hk => by
      obtain rfl : g = k := by simpa [Value.ownBlock] using hk
      rcases HGG.out with h | h
      · exact .inl h
      · have := F1.out.size; rw [World.size_alloc] at h; right; omega)
    clear hK K hrow hfr e2 e0 ez HOWN HF2 HB2
    generalize w2.setCell ⟨hb, 0, none⟩ (.slice (some ⟨g, 0, none⟩) (L.length + 1) cap) = W3 at HROW HFR ⊢
    refine wpAnyH_done (by kernel_rfl) ?_ _
    have hne : ∀ y ∈ L, y.h ≠ (⟨d, x, last + 1⟩ : Th).h := fun y hy => by have := H9.out y (H6.out.mem_iff.1 hy); show y.h ≠ last + 1; omega
    have hup := up_any hb g mb (L.length + 1) cap (L ++ [⟨d, x, last + 1⟩]) (last + 1) L.length M L.length ⟨d, x, last + 1⟩ W3 HROW.out (by rw [List.getElem?_append_right (Nat.le_refl _)]; simp) (snoc_hs (H8.out.perm H6.out) hne) (snoc_pl HP.out hne) (snoc_up HH.out _)
    have HUP := Lib.hid hup
    have c0 := cell_of_block HROW.out.hd 0
    have l3 := lt_of_block HROW.out.hd
    have b1 : ((L.length : Int) + 1) ≤ 1000000 := by rw [HN.out]; omega
    clear hup hne y0 y2 yz ly
    rw [show (#[Value.slice (some ⟨g, 0, none⟩) (L.length + 1) cap, .map (some mb), Value.int .i64 ((last + 1 : Nat) : Int)] : Array Value)[0]? = some (.slice (some ⟨g, 0, none⟩) (L.length + 1) cap) from rfl] at c0
    go_wp2_with fail
    refine HUP.out.mono ?_
    rintro e w4 ⟨rfl, L', M', i', hr4, hp4, hpos, hi', hdn, hch, hf4⟩
    have c2 := cell_of_block hr4.hd 2
    have l4 := lt_of_block hr4.hd
    rw [show (#[Value.slice (some ⟨g, 0, none⟩) (L.length + 1) cap, .map (some mb), Value.int .i64 ((last + 1 : Nat) : Int)] : Array Value)[2]? = some (.int .i64 ((last + 1 : Nat) : Int)) from rfl] at c2
    have HR4 := Lib.hid hr4
    have HP4 := Lib.hid hp4
    have HPOS := Lib.hid hpos
    have HDN := Lib.hid (hdn.heap (hch (snoc_ch L _)))
    have HF4 := Lib.hid hf4
    clear hr4 hp4 hpos hi' hdn hch hf4 HUP c0
    go_wp2
    go_ret
    have hlen : L'.length = L.length + 1 := by rw [HP4.out.length_eq]; simp
    refine ⟨by first | rfl | (congr 1), .slice (some ⟨g, 0, none⟩) (L.length + 1) cap, ⟨L', M', HR4.out.hd, by rw [hlen]; exact HR4.out.own, by rw [hlen]; exact HR4.out.map, HPOS.out, by rw [hlen]; exact HDN.out, ?_, ins_srt H7.out (fun y hy => by have := H9.out y hy; show y.h < last + 1; omega), ins_hs H8.out (fun y hy => by have := H9.out y hy; show y.h < last + 1; omega), ?_, by omega, by rw [ins_len]; omega⟩, ?_, ?_⟩
    · exact (HP4.out.trans (List.perm_append_singleton _ _)).trans (((H6.out.cons _)).trans (ins_perm _ _).symm)
    · intro y hy
      rcases ins_mem.1 hy with rfl | hy
      · exact ⟨hd, hx, by show 1 ≤ last + 1; omega, Nat.le_refl _⟩
      · have := H9.out y hy; omega
    · exact HGG.out
    · refine HFR.out.then HF4.out (fun k hk e => ?_)
      rcases e with rfl | rfl
      · rcases HGG.out k rfl with h | h
        · exact .inr (.inr h)
        · omega
      · exact .inr (.inl rfl)

end Go.Proofs.YtafeopcbfgmjkaaDoor
