/- The queues: making them, coming, going, being taken. -/
import Derived.Test.YteeckkkbmlkkiaaDoorWaitB
import Derived.Test.YteeckkkbmlkkiaaDoorReg
namespace Go.Proofs.YteeckkkbmlkkiaaDoor
open Go.RowKit Go.Maps

theorem wf_nat {x : Nat} (h : x < 18446744073709551616) : (Lit.int .u64 (x : Int)).wf = true := by
  simp [Lit.wf, IntKind.min, IntKind.max, IntKind.signed, IntKind.bits]; omega
theorem queueInfo : (Tryd.prog.info? 73).map (fun i => (i.zero, i.size, i.bytes)) = some (some (.agg #[.pointer none, .pointer none]), 2, 16) := by kernel_rfl

theorem find_inB (n : Nat) (L : List Sl) (a m : Nat) (each : Bool) : (inB (bucketN · n) L (bucketN a n)).find? (fitsB a m each) = L.find? (fitsB a m each) := by
  unfold inB
  rw [List.find?_filter]
  congr 1
  funext s
  rw [Bool.eq_iff_iff]
  simp only [decide_eq_true_eq, beq_iff_eq]
  constructor
  · exact fun h => h.2
  · intro h
    refine ⟨?_, h⟩
    unfold fitsB at h
    rw [Bool.and_eq_true, beq_iff_eq] at h
    rw [h.1]

set_option maxRecDepth 100000 in
set_option maxHeartbeats 1000000 in
theorem new_any (n : Nat) (w : World) (h1 : 1 ≤ n) (h2 : n ≤ 64) :
    Calls Tryd.prog 6 #[.int .i64 n] w fun e w' => ∃ qb lb mb, e = .returned (.tuple #[.pointer (some ⟨qb, 0, none⟩), .nilIface]) ∧ (∀ k, qOwn qb lb mb [] k → w.heap.size ≤ k) ∧
      QRep w' qb lb mb n [] ∧ New w w' := by
  obtain ⟨i0, hi, hz0, hz1, hz2⟩ := info_parts queueInfo
  have hmm := @run_makeMap Tryd.prog
  go_enter Tryd.func6, Tryd.ntmps6
  go_wp2_with (at_make; refine wpList_make_full _ rfl (.tmp 12) (.tmp 12) 56 rfl w.heap.size 73 i0 _ 2 Tryd.underlying56 hi hz0 hz1 .i64 .i64 n n n rfl rfl rfl rfl (by rw [hz2]; omega) (by unfold maxLen; omega) (by omega) ?_; intro w1 hown hgrow)
  go_ret2
  have hlt : w.heap.size < w1.heap.size := (hown.lt _ rfl).2
  have hrow := Arr.of_owns hown
  have e : (madeCells (Value.agg #[.pointer none, .pointer none]).cells (n * 2)).toList = (List.replicate n ()).flatMap fun _ => [Value.pointer none, Value.pointer none] :=
    madeRows [.pointer none, .pointer none] (by simp) n
  rw [e] at hrow
  have f1 : New w w1 := (Fr.refl _ _).grown hgrow (fun _ h => by cases h)
  have hrow2 := (hrow.alloc (.map #[] 0)).alloc (.cells #[.slice (some ⟨w.heap.size, 0, none⟩) n n, .map (some w1.heap.size)] 59)
  have hmap := (MapIs.made Tryd.prog 36 .u64 w1).keep ((Fr.refl (fun _ => False) _).alloc (.cells #[.slice (some ⟨w.heap.size, 0, none⟩) n n, .map (some w1.heap.size)] 59)) id
  refine ⟨w1.heap.size + 1, w.heap.size, w1.heap.size, by first | rfl | simp, ?_, ⟨⟨?_, ?_, ?_, ?_, List.Pairwise.nil, ?_, ?_, ?_⟩, ?_⟩, (f1.alloc _).alloc _⟩
  · rintro k (rfl | rfl | rfl | ⟨s, hs, rfl⟩)
    · omega
    · omega
    · omega
    · simp at hs
  · have := Arr.new (w1.alloc (.map #[] 0)) #[.slice (some ⟨w.heap.size, 0, none⟩) n n, .map (some w1.heap.size)] 59
    rw [World.size_alloc] at this
    exact this
  · intro j hj
    have g0 := hrow2.row (f := fun _ : Unit => [Value.pointer none, Value.pointer none]) (n := 2) (fun _ => rfl) (l := List.replicate n ()) (p := j) (a := ()) (by simp [hj]) 0 _ rfl
    have g1 := hrow2.row (f := fun _ : Unit => [Value.pointer none, Value.pointer none]) (n := 2) (fun _ => rfl) (l := List.replicate n ()) (p := j) (a := ()) (by simp [hj]) 1 _ rfl
    exact ⟨g0, g1⟩
  · exact ⟨hrow2.lt, hrow2.free⟩
  · intro j i s hs; simp [inB] at hs
  · intro s hs; simp at hs
  · exact ⟨by omega, by omega, by omega, fun s hs => by simp at hs⟩
  · exact ⟨h1, h2, by simp⟩
  · exact hmap

set_option maxRecDepth 100000 in
set_option maxHeartbeats 400000 in
theorem len_any (qb lb mb n : Nat) (L : List Sl) (w : World) (h : QRep w qb lb mb n L) :
    Calls Tryd.prog 10 #[.pointer (some ⟨qb, 0, none⟩)] w fun e w' => e = .returned (.int .i64 L.length) ∧ w = w' := by
  have c1 := h.hd.cell 1 _ rfl
  have l1 := h.hd.lt
  have hlen := h.map.len Tryd.underlying57
  obtain ⟨N, hN⟩ : ∃ N, L.length = N := ⟨_, rfl⟩
  rw [hN] at hlen ⊢
  clear hN h
  go_enter Tryd.func10, Tryd.ntmps10
  go_wp2
  go_ret
  exact ⟨rfl, rfl⟩

set_option maxRecDepth 100000 in
set_option maxHeartbeats 1000000 in
theorem put_ok (qb lb mb n : Nat) (L : List Sl) (u a m : Nat) (w : World) (h : QRep w qb lb mb n L) (h0 : u ≠ 0) (hid : hasId L u = false) (hi : u < 18446744073709551616) (ha : a < 18446744073709551616) (hm : m < 18446744073709551616) (hl : L.length < 1000000) :
    Calls Tryd.prog 15 #[.pointer (some ⟨qb, 0, none⟩), .int .u64 u, .int .u64 a, .int .u64 m] w fun e w' => e = .returned .nilIface ∧ ∃ blk, w.heap.size ≤ blk ∧ QRep w' qb lb mb n (L ++ [⟨u, a, m, blk⟩]) ∧ Fr (qOwn qb lb mb L) w w' := by
  have c1 := h.hd.cell 1 _ rfl
  have l1 := h.hd.lt
  have t0 : ((u : Int) == 0) = false := by rw [beq_eq_false_iff_ne]; omega
  have hwf : (Lit.int .u64 (u : Int)).wf = true := wf_nat hi
  have hlook := h.map.look1 keyInt Tryd.underlying57 (zeroP w) hwf
  rw [byOf_none hid, Option.getD_none] at hlook
  obtain ⟨s, hs⟩ : ∃ s : Sl, s = ⟨u, a, m, w.heap.size⟩ := ⟨_, rfl⟩
  have H := Lib.hid h
  have HS := Lib.hid hs
  clear h hs
  go_enter Tryd.func15, Tryd.ntmps15
  go_wp2_with (at_mapUpdate; go_loud (refine wpList_store_mapIs rfl _ _ _ 57 rfl 36 71 .u64 keyInt Tryd.underlying57 mb L.length (byOf L) rfl (H.out.map.keep ((Fr.refl (fun _ => False) w).alloc _) id) (by unfold maxLen; omega) u _ rfl rfl hwf ?_; intro w1 hmap hf1))
  have hsblk : s.blk = w.heap.size := by rw [HS.out]
  have hfa : Fr (fun k => k = mb) w w1 := ((Fr.refl _ w).alloc _).trans hf1
  have hcore := H.out.toQCore.keep hfa (fun k _ hk => hk)
  have hmbl := H.out.map.lt
  have hbk : w1.heap[s.blk]? = some (.cells #[.int .u64 s.id, .int .u64 s.addr, .int .u64 s.mask, .pointer none, .pointer none] 75 (0, 0)) := by
    rw [hsblk, hf1.block w.heap.size (by simp) (by omega), HS.out]
    exact block_alloc_new _ _
  have hsa : hasId L s.id = false := by rw [HS.out]; exact hid
  have hb1 : ∀ x ∈ L, x.blk ≠ s.blk := fun x hx e => by have := H.out.lt (.inr (.inr (.inr ⟨x, hx, rfl⟩))); omega
  have g1 := H.out.hd.lt
  have g2 := H.out.lbf.1
  have HL := Lib.hid (link_any qb lb mb n L s _ _ w1 hcore hbk hsa hb1 (by rw [hsblk]; omega) (by rw [HS.out]; exact ⟨by show 1 ≤ u; omega, hi, ha, hm⟩) hl)
  have HM := Lib.hid hmap
  have HFA := Lib.hid hfa
  clear hcore hbk hsa hb1 hmap hfa hf1 hlook c1 t0
  rw [← hsblk]
  have HSB := Lib.hid hsblk
  clear hsblk
  go_wp2_with fail
  refine HL.out.mono ?_
  rintro e w2 ⟨rfl, hc2, hf2⟩
  have HC2 := Lib.hid hc2
  have HF2 := Lib.hid hf2
  clear hc2 hf2 HL
  go_wp2
  go_ret
  have hfar := H.out.far
  have hm2 := HM.out.keep HF2.out (fun hk => by
    rcases hk with hk | hk | ⟨x, hx, hk⟩
    · exact hfar.2.2.1 hk
    · have := HSB.out; omega
    · exact (hfar.2.2.2 x hx).2.2 hk)
  rw [byOf_none hid] at hm2
  simp only [Option.isSome_none, Bool.false_eq_true, if_false] at hm2
  have hsu : (⟨u, a, m, w.heap.size⟩ : Sl) = s := HS.out.symm
  refine ⟨rfl, w.heap.size, Nat.le_refl _, ⟨by rw [hsu]; exact HC2.out, ?_⟩, (HFA.out.mono (fun k _ hk => .inr (.inr (.inl hk)))).then HF2.out (fun k hk hs => ?_)⟩
  · rw [hsu, List.length_append]
    refine hm2.congr (fun x _ => ?_)
    rw [byOf_snoc L s (by rw [HS.out]; exact hid), HSB.out, show s.id = u by rw [HS.out]]
    rfl
  · rcases hs with hk2 | hk2 | ⟨x, hx, hk2⟩
    · exact .inr (.inl hk2)
    · have := HSB.out; omega
    · exact .inr (.inr (.inr ⟨x, hx, hk2⟩))

set_option maxRecDepth 100000 in
set_option maxHeartbeats 1000000 in
theorem drop_none (qb lb mb n : Nat) (L : List Sl) (u : Nat) (w : World) (h : QRep w qb lb mb n L) (hid : hasId L u = false) (hi : u < 18446744073709551616) :
    Calls Tryd.prog 17 #[.pointer (some ⟨qb, 0, none⟩), .int .u64 u] w fun e w' => e = .returned (.bool false) ∧ w = w' := by
  have c1 := h.hd.cell 1 _ rfl
  have l1 := h.hd.lt
  have hlook := h.map.look1 keyInt Tryd.underlying57 (zeroP w) (wf_nat hi)
  rw [byOf_none hid, Option.getD_none] at hlook
  clear h hid
  go_enter Tryd.func17, Tryd.ntmps17
  go_wp2
  go_ret
  exact ⟨rfl, rfl⟩

set_option maxRecDepth 100000 in
set_option maxHeartbeats 1000000 in
theorem drop_ok (qb lb mb n : Nat) (L : List Sl) (s : Sl) (w : World) (h : QRep w qb lb mb n L) (hs : s ∈ L) :
    Calls Tryd.prog 17 #[.pointer (some ⟨qb, 0, none⟩), .int .u64 s.id] w fun e w' => e = .returned (.bool true) ∧ QRep w' qb lb mb n (without L s.id) ∧ Fr (qOwn qb lb mb L) w w' ∧ w'.heap[s.blk]? = w.heap[s.blk]? := by
  have c1 := h.hd.cell 1 _ rfl
  have l1 := h.hd.lt
  have hea := h.each s hs
  have hlook := h.map.look1 keyInt Tryd.underlying57 (zeroP w) (wf_nat hea.2.1)
  rw [byOf_of h.once hs, Option.getD_some] at hlook
  have HU := Lib.hid (unlink_any qb lb mb n L s w h.toQCore hs)
  have H := Lib.hid h
  have hwf := wf_nat hea.2.1
  clear h
  go_enter Tryd.func17, Tryd.ntmps17
  go_wp2_with fail
  refine HU.out.mono ?_
  rintro e w1 ⟨rfl, hc1, hf1, hb1⟩
  have hfar := H.out.far
  have hmap1 := H.out.map.keep hf1 (fun hk => by
    rcases hk with hk | ⟨x, hx, hk⟩
    · exact hfar.2.2.1 hk
    · exact (hfar.2.2.2 x hx).2.2 hk)
  have d1 := hc1.hd.cell 1 _ rfl
  have l2 := hc1.hd.lt
  have HC1 := Lib.hid hc1
  have HF1 := Lib.hid hf1
  have HB1 := Lib.hid hb1
  clear hc1 hf1 hb1 hlook HU c1
  go_wp2_with (at_delete; refine wpList_delete_mapIs rfl _ _ 57 36 rfl 71 .u64 keyInt Tryd.underlying57 mb L.length (byOf L) rfl hmap1 s.id rfl hwf ?_; intro w2 hmap2 hf2)
  go_ret
  have hsm : hasId L s.id = true := hasId_iff.2 ⟨s, hs, rfl⟩
  rw [byOf_of H.out.once hs] at hmap2
  simp only [Option.isSome_some, if_true] at hmap2
  have hwl := without_length H.out.once hsm
  have hsb := hfar.2.2.2 s hs
  refine ⟨rfl, ⟨HC1.out.keep hf2 (fun k _ hk => hk), ?_⟩, (HF1.out.mono (fun k _ hk => ?_)).trans (hf2.mono (fun k _ hk => .inr (.inr (.inl hk)))), ?_⟩
  · rw [show (without L s.id).length = L.length - 1 by omega]
    exact hmap2.congr (fun x _ => byOf_without L s.id x)
  · rcases hk with hk | hk
    · exact .inr (.inl hk)
    · exact .inr (.inr (.inr hk))
  · rw [hf2.block s.blk (Nat.lt_of_lt_of_le (H.out.lt (.inr (.inr (.inr ⟨s, hs, rfl⟩)))) HF1.out.size) (fun e => hsb.2.2 e)]
    exact HB1.out

/-- The first that fits. -/
def firstOf (L : List Sl) (a m : Nat) : Option Sl := L.find? (fitsB a m false)
theorem firstOf_mem {L : List Sl} {a m : Nat} {s : Sl} (h : firstOf L a m = some s) : s ∈ L := List.mem_of_find?_eq_some h

set_option maxRecDepth 100000 in
set_option maxHeartbeats 1000000 in
theorem has_any (qb lb mb n : Nat) (L : List Sl) (a m : Nat) (w : World) (h : QRep w qb lb mb n L) (ha : a < 18446744073709551616) (hm : m < 18446744073709551616) :
    Calls Tryd.prog 32 #[.pointer (some ⟨qb, 0, none⟩), .int .u64 a, .int .u64 m] w fun e w' => e = .returned (.bool (firstOf L a m).isSome) ∧ New w w' := by
  have hF := first_any qb lb mb n L a m false w h ha hm
  rw [find_inB, show L.find? (fitsB a m false) = firstOf L a m from rfl] at hF
  have l1 := h.hd.lt
  cases hx : firstOf L a m with
  | none =>
    rw [hx, show ptrO none = .pointer none from rfl] at hF
    have HF := Lib.hid hF
    clear hF h hx
    go_enter Tryd.func32, Tryd.ntmps32
    go_wp2_with fail
    refine HF.out.mono ?_
    rintro e w1 ⟨rfl, hn⟩
    have HN := Lib.hid hn
    clear hn
    go_wp2
    go_ret
    exact ⟨rfl, HN.out⟩
  | some s =>
    rw [hx, show ptrO (some s) = .pointer (some ⟨s.blk, 0, none⟩) from rfl] at hF
    have HF := Lib.hid hF
    clear hF h hx
    go_enter Tryd.func32, Tryd.ntmps32
    go_wp2_with fail
    refine HF.out.mono ?_
    rintro e w1 ⟨rfl, hn⟩
    have HN := Lib.hid hn
    clear hn
    go_wp2
    go_ret
    exact ⟨rfl, HN.out⟩

set_option maxRecDepth 100000 in
set_option maxHeartbeats 1000000 in
theorem take_none (qb lb mb n : Nat) (L : List Sl) (a m : Nat) (w : World) (h : QRep w qb lb mb n L) (ha : a < 18446744073709551616) (hm : m < 18446744073709551616) (hx : firstOf L a m = none) :
    Calls Tryd.prog 24 #[.pointer (some ⟨qb, 0, none⟩), .int .u64 a, .int .u64 m] w fun e w' => e = .returned (.tuple #[.int .u64 0, .bool false]) ∧ New w w' := by
  have hF := first_any qb lb mb n L a m false w h ha hm
  rw [find_inB, show L.find? (fitsB a m false) = firstOf L a m from rfl, hx, show ptrO none = .pointer none from rfl] at hF
  have l1 := h.hd.lt
  have HF := Lib.hid hF
  clear hF h hx
  go_enter Tryd.func24, Tryd.ntmps24
  go_wp2_with fail
  refine HF.out.mono ?_
  rintro e w1 ⟨rfl, hn⟩
  have HN := Lib.hid hn
  clear hn
  go_wp2
  go_ret2
  exact ⟨rfl, HN.out⟩

set_option maxRecDepth 100000 in
set_option maxHeartbeats 2000000 in
theorem take_ok (qb lb mb n : Nat) (L : List Sl) (a m : Nat) (s : Sl) (w : World) (h : QRep w qb lb mb n L) (ha : a < 18446744073709551616) (hm : m < 18446744073709551616) (hx : firstOf L a m = some s) :
    Calls Tryd.prog 24 #[.pointer (some ⟨qb, 0, none⟩), .int .u64 a, .int .u64 m] w fun e w' => e = .returned (.tuple #[.int .u64 s.id, .bool true]) ∧ QRep w' qb lb mb n (without L s.id) ∧ Fr (qOwn qb lb mb L) w w' := by
  have hF := first_any qb lb mb n L a m false w h ha hm
  rw [find_inB, show L.find? (fitsB a m false) = firstOf L a m from rfl, hx, show ptrO (some s) = .pointer (some ⟨s.blk, 0, none⟩) from rfl] at hF
  have l1 := h.hd.lt
  have hs := firstOf_mem hx
  have HF := Lib.hid hF
  have H := Lib.hid h
  clear hF h hx
  go_enter Tryd.func24, Tryd.ntmps24
  go_wp2_with fail
  refine HF.out.mono ?_
  rintro e w1 ⟨rfl, hn⟩
  have h1 := H.out.new hn
  obtain ⟨p, x, hb⟩ := h1.block hs
  have lb1 := lt_of_block hb
  have s0 : w1.drew.cell? ⟨s.blk, 0, none⟩ = some (.int .u64 s.id) := cell_of_block hb 0
  have HN := Lib.hid hn
  have H1 := Lib.hid h1
  clear hn h1 hb H HF
  go_wp2_with fail
  refine heldStart (fun W1 => W1.cell? ⟨s.blk, 0, none⟩ = some (.int .u64 s.id)) (by kernel_rfl) ?_
  refine wpAnyH_take (i := 0) (v := ?_) rfl (by kernel_rfl) (by kernel_rfl) (by kernel_rfl) (fun _ _ _ h => h) (Or.inl ⟨by rfl, ?_⟩) s0 ?_
  rotate_left
  · intro w hSw; first | (obtain ⟨s1, s2, s3, s4, s5, s6, s7⟩ := hSw; go_simp; rfl) | (obtain ⟨s1, s2, s3⟩ := hSw; go_simp; rfl) | (obtain ⟨s1, s2⟩ := hSw; go_simp; rfl) | (have s1 := hSw; go_simp; rfl)
  refine wpAnyH_take (i := 1) (v := ?_) rfl (by kernel_rfl) (by kernel_rfl) (by kernel_rfl) (fun _ _ _ h => h) (Or.inl ⟨by rfl, ?_⟩) s0 ?_
  rotate_left
  · intro w hSw; first | (obtain ⟨s1, s2, s3, s4, s5, s6, s7⟩ := hSw; go_simp; rfl) | (obtain ⟨s1, s2, s3⟩ := hSw; go_simp; rfl) | (obtain ⟨s1, s2⟩ := hSw; go_simp; rfl) | (have s1 := hSw; go_simp; rfl)
  refine wpAnyH_take (i := 2) (v := ?_) rfl (by kernel_rfl) (by kernel_rfl) (by kernel_rfl) (fun _ _ _ h => h) (Or.inl ⟨by rfl, ?_⟩) s0 ?_
  rotate_left
  · intro w hSw; first | (obtain ⟨s1, s2, s3, s4, s5, s6, s7⟩ := hSw; go_simp; rfl) | (obtain ⟨s1, s2, s3⟩ := hSw; go_simp; rfl) | (obtain ⟨s1, s2⟩ := hSw; go_simp; rfl) | (have s1 := hSw; go_simp; rfl)
  refine wpAnyH_take (i := 3) (v := ?_) rfl (by kernel_rfl) (by kernel_rfl) (by kernel_rfl) (fun _ _ _ h => h) (Or.inl ⟨by rfl, ?_⟩) s0 ?_
  rotate_left
  · intro w hSw; first | (obtain ⟨s1, s2, s3, s4, s5, s6, s7⟩ := hSw; go_simp; rfl) | (obtain ⟨s1, s2, s3⟩ := hSw; go_simp; rfl) | (obtain ⟨s1, s2⟩ := hSw; go_simp; rfl) | (have s1 := hSw; go_simp; rfl)
  refine wpAnyH_take (i := 4) (v := ?_) rfl (by kernel_rfl) (by kernel_rfl) (by kernel_rfl) (fun _ _ _ h => h) (Or.inl ⟨by rfl, ?_⟩) s0 ?_
  rotate_left
  · intro w hSw; first | (obtain ⟨s1, s2, s3, s4, s5, s6, s7⟩ := hSw; go_simp; rfl) | (obtain ⟨s1, s2, s3⟩ := hSw; go_simp; rfl) | (obtain ⟨s1, s2⟩ := hSw; go_simp; rfl) | (have s1 := hSw; go_simp; rfl)
  refine wpAnyH_take (i := 5) (v := ?_) rfl (by kernel_rfl) (by kernel_rfl) (by kernel_rfl) (fun _ _ _ h => h) (Or.inl ⟨by rfl, ?_⟩) s0 ?_
  rotate_left
  · intro w hSw; first | (obtain ⟨s1, s2, s3, s4, s5, s6, s7⟩ := hSw; go_simp; rfl) | (obtain ⟨s1, s2, s3⟩ := hSw; go_simp; rfl) | (obtain ⟨s1, s2⟩ := hSw; go_simp; rfl) | (have s1 := hSw; go_simp; rfl)
  refine wpAnyH_take (i := 6) (v := ?_) rfl (by kernel_rfl) (by kernel_rfl) (by kernel_rfl) (fun _ _ _ h => h) (Or.inl ⟨by rfl, ?_⟩) s0 ?_
  rotate_left
  · intro w hSw; first | (obtain ⟨s1, s2, s3, s4, s5, s6, s7⟩ := hSw; go_simp; rfl) | (obtain ⟨s1, s2, s3⟩ := hSw; go_simp; rfl) | (obtain ⟨s1, s2⟩ := hSw; go_simp; rfl) | (have s1 := hSw; go_simp; rfl)
  refine wpAnyH_take (i := 7) (v := ?_) rfl (by kernel_rfl) (by kernel_rfl) (by kernel_rfl) (fun _ _ _ h => h) (Or.inl ⟨by rfl, ?_⟩) s0 ?_
  rotate_left
  · intro w hSw; first | (obtain ⟨s1, s2, s3, s4, s5, s6, s7⟩ := hSw; go_simp; rfl) | (obtain ⟨s1, s2, s3⟩ := hSw; go_simp; rfl) | (obtain ⟨s1, s2⟩ := hSw; go_simp; rfl) | (have s1 := hSw; go_simp; rfl)
  refine wpAnyH_take (i := 8) (v := ?_) rfl (by kernel_rfl) (by kernel_rfl) (by kernel_rfl) (fun _ _ _ h => h) (Or.inl ⟨by rfl, ?_⟩) s0 ?_
  rotate_left
  · intro w hSw; first | (obtain ⟨s1, s2, s3, s4, s5, s6, s7⟩ := hSw; go_simp; rfl) | (obtain ⟨s1, s2, s3⟩ := hSw; go_simp; rfl) | (obtain ⟨s1, s2⟩ := hSw; go_simp; rfl) | (have s1 := hSw; go_simp; rfl)
  have hd0 : New w1 w1.drew := (Fr.refl _ _).drew
  have HD := Lib.hid (H1.out.new hd0)
  have HND := Lib.hid (HN.out.trans hd0)
  clear hd0 H1 HN
  generalize w1.drew = V0 at HD HND s0 ⊢
  refine heldOne (i := 9) (by kernel_rfl) rfl (by rfl) (fun K hK => ?_)
  go_simp
  refine (drop_ok qb lb mb n L s V0 HD.out hs).mono ?_
  rintro e w2 ⟨rfl, hq2, hf2, hb2⟩
  have s1 : w2.cell? ⟨s.blk, 0, none⟩ = some (.int .u64 s.id) := (World.cell?_of_block (a := ⟨s.blk, 0, none⟩) hb2).trans s0
  refine hK.out _ _ s1 ?_
  have HQ := Lib.hid hq2
  have HFR := Lib.hid ((HND.out.mono (fun _ _ h => h.elim)).trans hf2)
  clear hK K hq2 hf2 hb2
  refine wpAnyH_take (i := 10) (v := ?_) rfl (by kernel_rfl) (by kernel_rfl) (by kernel_rfl) (fun _ _ _ h => h) (Or.inl ⟨by rfl, ?_⟩) s1 ?_
  rotate_left
  · intro w hSw; first | (obtain ⟨s1, s2, s3, s4, s5, s6, s7⟩ := hSw; go_simp; rfl) | (obtain ⟨s1, s2, s3⟩ := hSw; go_simp; rfl) | (obtain ⟨s1, s2⟩ := hSw; go_simp; rfl) | (have s1 := hSw; go_simp; rfl)
  refine wpAnyH_take (i := 11) (v := ?_) rfl (by kernel_rfl) (by kernel_rfl) (by kernel_rfl) (fun _ _ _ h => h) (Or.inl ⟨by rfl, ?_⟩) s1 ?_
  rotate_left
  · intro w hSw; first | (obtain ⟨s1, s2, s3, s4, s5, s6, s7⟩ := hSw; go_simp; rfl) | (obtain ⟨s1, s2, s3⟩ := hSw; go_simp; rfl) | (obtain ⟨s1, s2⟩ := hSw; go_simp; rfl) | (have s1 := hSw; go_simp; rfl)
  refine wpAnyH_done (by kernel_rfl) ?_ _
  clear s1 s0
  go_wp2
  go_ret2
  exact ⟨rfl, HQ.out, HFR.out⟩

end Go.Proofs.YteeckkkbmlkkiaaDoor
