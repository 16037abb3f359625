/- What doesn't go on changes nothing: the statement's walk. -/
import Derived.Test.YtngpcalgjaglmaaDoorVmY
import Derived.Test.YtngpcalgjaglmaaDoorVmJ
import Derived.Test.YtngpcalgjaglmaaDoorWithin
namespace Go.Proofs.YtngpcalgjaglmaaDoor
open Go.RowKit

theorem Fr.setCells {S : Nat → Prop} {b : Nat} : ∀ (vs : List Value) (o : Nat) {a w : World}, Fr S a w → (b < a.heap.size → S b) → Fr S a (w.setCells b o vs)
  | [], _, _, _, h, _ => h
  | v :: r, o, _, _, h, hb => Fr.setCells r (o + 1) (h.setCell (p := ⟨b, o, none⟩) hb v) hb
theorem there_new (w : World) (c : Array Value) (T : TypeId) (n : Nat) (h : n ≤ c.size) : (w.alloc (.cells c T)).there w.heap.size 0 n := fun j hj => by
  have hb := block_alloc_new w (.cells c T)
  rw [cell_of_block hb, free_of_block hb, Nat.zero_add]
  exact ⟨by rw [Array.getElem?_eq_getElem (by omega)]; rfl, rfl⟩
theorem good_ld (q : Nat) : goodV 17 1 (-1) 0 q 3 = true := by
  show mayB 17 1 (-1) 0 q 0 0 3 true = true
  have h1 : numB 17 (-1) 0 q 3 true = true := by unfold numB numP; simp [plc, noC]
  unfold mayB restB
  rw [show fV 17 = true by decide, h1]
  decide
theorem good_yld : goodV 56 0 0 0 0 3 = true := by decide
theorem err_far {q : Nat} (h : 11 ≤ q) (h2 : q ≤ 1010) : accErr bothWs q = some ((q : Int), 2) := by
  have h0 : bothWs.getD q 0 = 0 := by
    rcases (show q = 11 ∨ 12 ≤ q by omega) with rfl | h
    · rfl
    · rw [List.getD_eq_getElem?_getD, List.getElem?_eq_none (by show 12 ≤ q; exact h)]; rfl
  unfold accErr gonePlace
  rw [if_pos h0, if_pos (by omega)]
theorem far_getD {q : Nat} (h : 11 ≤ q) : bothWs.getD q 0 = 0 := by
  rcases (show q = 11 ∨ 12 ≤ q by omega) with rfl | h
  · rfl
  · rw [List.getD_eq_getElem?_getD, List.getElem?_eq_none (by show 12 ≤ q; exact h)]; rfl
theorem cs_far {q : Nat} (h : 11 ≤ q) (k : Nat) (cs : List Nat) (o v : Nat) : accCs k cs bothWs q o v = cs := by unfold accCs; rw [if_pos (far_getD h)]
theorem n_far {q : Nat} (h : 11 ≤ q) (ct : Nat) : accN bothWs q ct = ct := by unfold accN; rw [if_pos (far_getD h)]
set_option maxRecDepth 100000 in
set_option maxHeartbeats 1000000 in
theorem step_nil (co : Option Addr) (n cap : Nat) (cv : Value) (w : World) :
    Calls Tryd.prog 10 #[.pointer none, .slice co n cap, cv] w fun e w' => e = .returned (.tuple #[.int .i64 3, .nilIface]) ∧ New w w' := by
  go_enter Tryd.func10, Tryd.ntmps10
  go_wp2_with fail
  first
    | (go_ret2; exact ⟨rfl, Fr.refl _ _⟩)
    | (go_quiet (fail)
       go_wp2
       go_ret2
       exact ⟨rfl, (Fr.refl _ _).drewN _⟩)
theorem regV_one (rs : List Nat) : (regV rs).toArray.all (·.oneCell') = true := all_oneCell_toArray (fun v hv => by obtain ⟨x, _, rfl⟩ := List.mem_map.1 hv; rfl)

set_option maxRecDepth 100000 in
set_option maxHeartbeats 8000000 in
theorem kept_walk (op : Int) (xs : List Nat) (xo : Option Addr) (xcap : Nat) (at_ : Nat) (pc : Int) (w : World) (hg : Laid w) (hop : -9223372036854775808 ≤ op ∧ op ≤ 9223372036854775807)
    (hx : Nats w xo xs) (hxf : ∀ x ∈ xs, x < 18446744073709551616) (hxm : xs.length ≤ 9223372036854775807) (hat : at_ < 18446744073709551616) (hpc : -9223372036854775808 ≤ pc ∧ pc ≤ 9223372036854775807) :
    Calls Tryd.prog 4 #[.int .i64 op, .slice xo xs.length xcap, .int .u64 at_, .int .i64 pc] w fun e w' => e = .returned (.bool true) ∧ New w w' := by
  have HG := Lib.hid hg
  have hge := lt_of_cell hg
  obtain ⟨o, ho1, ho2⟩ := within_nat op 36 (by omega)
  have hwo := fun w => within_any op 36 w (by omega) (by omega) hop.1 hop.2
  rw [ho1] at hwo
  have HWO := Lib.hid hwo
  obtain ⟨p, hp1, hp2⟩ := within_nat pc 1000 (by omega)
  have hwp := fun w => within_any pc 1000 w (by omega) (by omega) hpc.1 hpc.2
  rw [hp1] at hwp
  have HWP := Lib.hid hwp
  have hbo := both_any [] none 0 w (fun j x hj => by simp at hj) (by simp) (by simp)
  rw [show min ([] : List Nat).length 11 = 0 from rfl, show ([] : List Nat).length = 0 from rfl] at hbo
  have HBO := Lib.hid hbo
  have HFR := Lib.hid (fun w' (f : New w w') (yo : Option Addr) (hy : IntsI w' yo [4, 5]) => frame_any 0 xs xo xcap [4, 5] yo 2 w' (hx.keep f) hxf hxm hy (by decide))
  rw [show ([4, 5] : List Int).length = 2 from rfl, show ([4, 5] : List Int).take 8 = [4, 5] from rfl] at HFR
  generalize xs.length = xl at HFR ⊢
  clear hg ho1 hwo hp1 hwp hbo hx hxf hxm hop hpc
  go_enter Tryd.func4, Tryd.ntmps4
  go_wp2_with fail
  refine HBO.out.mono ?_
  rintro e w1 ⟨b, cb, wb, rb, rwb, rhb, rfl, h6, hs, hn1⟩
  have HS1 := Lib.hid hs.m
  have HN1 := Lib.hid hn1
  have HN1s := Lib.hid hn1.size
  have H6 := Lib.hid h6
  have hbl := hs.m.hd.lt
  have hcl := hs.m.cells.lt
  have hwl := hs.m.widths.lt
  clear hs hn1 h6 HBO
  go_wp2_with fail
  obtain ⟨W1, hW1⟩ : ∃ W1, w1.alloc (.cells #[.int .i64 4, .int .i64 5] 3) = W1 := ⟨_, rfl⟩
  have hn2 : New w1 W1 := by rw [← hW1]; exact (Fr.refl _ _).alloc _
  have ha : Arr W1 w1.heap.size [.int .i64 4, .int .i64 5] := by rw [← hW1]; exact Arr.new _ _ _
  obtain ⟨yb, hyb⟩ : ∃ yb, w1.heap.size = yb := ⟨_, rfl⟩
  rw [hyb] at ha ⊢
  rw [hW1]
  have hy : IntsI W1 (some ⟨yb, 0, none⟩) [4, 5] := fun j x hj => by
    have hjl : j < 2 := (List.getElem?_eq_some_iff.1 hj).1
    refine ⟨yb, 0, rfl, ha.lt, ?_⟩
    rw [Nat.zero_add]
    rcases (show j = 0 ∨ j = 1 by omega) with rfl | rfl <;> cases hj
    · exact ha.cell 0 _ rfl
    · exact ha.cell 1 _ rfl
  have HY := Lib.hid hy
  have HN2 := Lib.hid hn2
  clear hW1 hn2 ha hyb hy
  refine (HFR.out W1 (HN1.out.trans HN2.out) _ HY.out).mono ?_
  rintro e w2 ⟨fb, gb, v, u, rfl, hfb, hgb, hfm, hv, hu, hn3⟩
  have HFM := Lib.hid hfm.f
  have HV := Lib.hid hv
  have hlen := hfm.f.fr.len
  have hfl := hfm.f.fr.lt
  have HN3 := Lib.hid (HN2.out.trans hn3)
  have HN2s := Lib.hid HN2.out.size
  simp only at hlen
  clear hfm hv hu hn3 HFR HY HN2
  generalize padR xs (min xl 32) = rs at HFM hlen
  have HRL := Lib.hid (show (Tryd.prog.info? 48).map (·.size) = some (regV rs).length by rw [regSize, List.length_map, hlen])
  have HRS := Lib.hid (show (Tryd.prog.info? 48).map (·.size) = some (regV rs).toArray.size by rw [regSize, List.size_toArray, List.length_map, hlen])
  have HTH := Lib.hid (fun (c : Array Value) (h : 32 ≤ c.size) => there_new w2 c 48 (regV rs).toArray.size (by rw [List.size_toArray, List.length_map, hlen]; exact h))
  go_wp2_with (first
    | (refine wpList_load_mid rfl 48 (.tmp 33) rfl fb 1 rfl (regV rs) _ HFM.out.fr.range Tryd.underlying48 rfl HRL.out ?_)
    | (refine wpList_store_mid rfl 48 (.tmp 13) (.tmp 34) rfl w2.heap.size 0 (regV rs).toArray rfl rfl (HTH.out _ (by decide)) HRS.out (regV_one rs) ?_))
  obtain ⟨W3, hW3⟩ : ∃ W3, (w2.alloc (.cells #[Value.int IntKind.u64 0, Value.int IntKind.u64 0, Value.int IntKind.u64 0, Value.int IntKind.u64 0, Value.int IntKind.u64 0, Value.int IntKind.u64 0, Value.int IntKind.u64 0, Value.int IntKind.u64 0, Value.int IntKind.u64 0, Value.int IntKind.u64 0, Value.int IntKind.u64 0, Value.int IntKind.u64 0, Value.int IntKind.u64 0, Value.int IntKind.u64 0, Value.int IntKind.u64 0, Value.int IntKind.u64 0, Value.int IntKind.u64 0, Value.int IntKind.u64 0, Value.int IntKind.u64 0, Value.int IntKind.u64 0, Value.int IntKind.u64 0, Value.int IntKind.u64 0, Value.int IntKind.u64 0, Value.int IntKind.u64 0, Value.int IntKind.u64 0, Value.int IntKind.u64 0, Value.int IntKind.u64 0, Value.int IntKind.u64 0, Value.int IntKind.u64 0, Value.int IntKind.u64 0, Value.int IntKind.u64 0, Value.int IntKind.u64 0] 48)).setCells w2.heap.size 0 (regV rs) = W3 := ⟨_, rfl⟩
  have hth := HTH.out #[Value.int IntKind.u64 0, Value.int IntKind.u64 0, Value.int IntKind.u64 0, Value.int IntKind.u64 0, Value.int IntKind.u64 0, Value.int IntKind.u64 0, Value.int IntKind.u64 0, Value.int IntKind.u64 0, Value.int IntKind.u64 0, Value.int IntKind.u64 0, Value.int IntKind.u64 0, Value.int IntKind.u64 0, Value.int IntKind.u64 0, Value.int IntKind.u64 0, Value.int IntKind.u64 0, Value.int IntKind.u64 0, Value.int IntKind.u64 0, Value.int IntKind.u64 0, Value.int IntKind.u64 0, Value.int IntKind.u64 0, Value.int IntKind.u64 0, Value.int IntKind.u64 0, Value.int IntKind.u64 0, Value.int IntKind.u64 0, Value.int IntKind.u64 0, Value.int IntKind.u64 0, Value.int IntKind.u64 0, Value.int IntKind.u64 0, Value.int IntKind.u64 0, Value.int IntKind.u64 0, Value.int IntKind.u64 0, Value.int IntKind.u64 0] (by decide)
  have hn3 : New w2 W3 := by rw [← hW3]; exact Fr.setCells _ _ ((Fr.refl _ _).alloc _) (fun h => by omega)
  have hra : W3.rangeAt w2.heap.size 0 (regV rs) := by rw [← hW3]; exact World.rangeAt_setCells_same _ _ _ _ (by rw [List.size_toArray] at hth; exact hth)
  have hzs : w2.heap.size < W3.heap.size := World.block_lt_of_cell? _ _ (hra 0 _ (by rw [List.getElem?_map, List.getElem?_eq_getElem (by omega)]; rfl))
  obtain ⟨zb, hzb⟩ : ∃ zb, w2.heap.size = zb := ⟨_, rfl⟩
  rw [hzb] at hra hzs hfl ⊢
  rw [hzb] at hW3
  rw [hW3]
  have HN4 := Lib.hid hn3
  have HRA := Lib.hid hra
  clear hW3 hth hn3 hra hzb HTH HRS
  go_wp2_with (go_at_call 9; refine (HWO.out _).mono ?_; rintro e w' ⟨rfl, rfl⟩)
  obtain ⟨q, hq, hq1, hq2⟩ : ∃ q : Nat, (11 : Int) + (at_ : Int) % 1000 = (q : Int) ∧ 11 ≤ q ∧ q ≤ 1010 := ⟨11 + at_ % 1000, by omega, by omega, by omega⟩
  rw [hq]
  have HQ := Lib.hid hq
  clear hq
  obtain ⟨cg, hcg⟩ : ∃ cg, W3.heap.size = cg := ⟨_, rfl⟩
  obtain ⟨W4, hW4⟩ : ∃ W4, W3.alloc (.cells #[.int .i64 17, .int .i64 1, .int .i64 (-1), .int .i64 0, .int .u64 q, .int .i64 0, .int .i64 0, .int .i64 56, .int .i64 0, .int .i64 0, .int .i64 0, .int .u64 0, .int .i64 0, .int .i64 0, .int .i64 (23 + (o : Int)), .int .i64 0, .int .i64 0, .int .i64 0, .int .u64 0, .int .i64 0, .int .i64 0] 52) = W4 := ⟨_, rfl⟩
  have hn5 : New W3 W4 := by rw [← hW4]; exact (Fr.refl _ _).alloc _
  have hb4 := block_alloc_new W3 (.cells #[.int .i64 17, .int .i64 1, .int .i64 (-1), .int .i64 0, .int .u64 q, .int .i64 0, .int .i64 0, .int .i64 56, .int .i64 0, .int .i64 0, .int .i64 0, .int .u64 0, .int .i64 0, .int .i64 0, .int .i64 (23 + (o : Int)), .int .i64 0, .int .i64 0, .int .i64 0, .int .u64 0, .int .i64 0, .int .i64 0] 52)
  rw [hW4, hcg] at hb4
  rw [hcg, hW4]
  have hi0 : InsAt W4 cg 0 0 17 1 (-1) 0 q 0 0 := ins_block hb4 rfl rfl rfl rfl rfl rfl rfl
  have hi1 : InsAt W4 cg 0 1 56 0 0 0 (0 : Nat) 0 0 := ins_block hb4 rfl rfl rfl rfl rfl rfl rfl
  have hcl4 := lt_of_block hb4
  have hF4 : FmAt W4 fb 0 v ⟨0, rs, [4, 5]⟩ := HFM.out.new (HN4.out.trans hn5)
  have hM4 : MemRep W4 b cb wb (bothCs [] 0) bothWs (cnt bothWs) 0 := HS1.out.keep (HN3.out.trans (HN4.out.trans hn5)) id id id
  have hR4 : W4.rangeAt zb 0 (regV rs) := fun j x hj => (hn5.cell hzs id _).trans (HRA.out j x hj)
  have hsz2 := HN3.out.size
  have hw11 := HN2s.out
  have hvb : ∀ k, v.ownBlock = some k → w1.heap.size ≤ k := fun k hk => Nat.le_trans HN2s.out (HV.out k hk)
  have hst := step_acc fb 0 b cb wb v ⟨0, rs, [4, 5]⟩ (bothCs [] 0) bothWs (cnt bothWs) 0 cg 0 3 3 0 W4 17 1 (-1) 0 q 0 0 hF4 hi0 (by omega) (by omega) (by omega) rfl (good_ld q) (by omega) (by omega) (by omega) hM4 (by omega) ⟨by omega, by omega, by omega⟩ ⟨fun e => (by have := hvb _ e; omega), fun e => (by have := hvb _ e; omega)⟩
  have HST := Lib.hid hst
  have HB4 := Lib.hid hb4
  have HI1 := Lib.hid hi1
  have HF4 := Lib.hid hF4
  have HM4 := Lib.hid hM4
  have HR4 := Lib.hid hR4
  have HN5 := Lib.hid ((HN1.out.trans HN3.out).trans (HN4.out.trans hn5))
  have HVB := Lib.hid hvb
  clear hW4 hn5 hb4 hi0 hi1 hF4 hM4 hR4 hst hvb HS1 HN1 HFM HV HN3 HN4 HRA HN2s
  refine HST.out.mono ?_
  rintro e w5 ⟨r, er, rfl, hr⟩
  obtain ⟨hr1, hr2, hr3, hr4, hr5⟩ := hr
  rw [show adrN rs (-1) q = q from if_pos rfl, err_far hq1 hq2] at hr1 hr2 hr3
  rw [show adrN rs (-1) q = q from if_pos rfl, cs_far hq1, n_far hq1] at hr4
  rw [if_neg (by simp)] at hr1 hr3
  subst hr1
  have hng : ∀ k, (k = fb ∨ k = b ∨ k = cb) → w.heap.size ≤ k := fun k hk => by
    have := HN1s.out; have := H6.out b (.inl (.inl rfl)); have := H6.out cb (.inl (.inr (.inl rfl)))
    rcases hk with rfl | rfl | rfl <;> omega
  have h5 : New w w5 := HN5.out.then hr5 (fun i hi e => by have := hng i e; omega)
  have HN6 := Lib.hid h5
  have HER := Lib.hid hr2
  have HF5 := Lib.hid hr3
  have HM5 := Lib.hid hr4
  have HR5 := Lib.hid (show w5.rangeAt zb 0 (regV rs) from fun j x hj => (hr5.cell (by omega) (by omega) _).trans (HR4.out j x hj))
  have HI1 := Lib.hid (HI1.out.keep hr5 (by omega))
  have hb5 : w5.heap[cg]? = W4.heap[cg]? := hr5.block cg hcl4 (by omega)
  have HB5 := Lib.hid (hb5.trans HB4.out)
  have HG5 := Lib.hid (HG.out.keep h5 id)
  clear hr2 hr3 hr4 hr5 h5 hb5 HST HB4 HF4 HM4 HR4
  have tq : IntKind.u64.wrap (11 + ((at_ : Nat) : Int).tmod 1000) = (q : Int) := by
    rw [Int.tmod_eq_emod_of_nonneg (by omega), HQ.out]; exact IntWalk.u64_in _ (by omega)
  have tq2 : IntKind.i64.wrap ((q : Nat) : Int) = (q : Int) := IntWalk.i64_in _ (by omega)
  go_wp2_with fail
  refine heldStart (fun wz => wz.cell? ⟨fb, 0, none⟩ = some (.int .i64 0) ∧ wz.rangeAt fb 1 (regV rs) ∧ wz.rangeAt zb 0 (regV rs)) (by kernel_rfl) ?_
  have HT := Lib.hid (fun (W' : World) (f : New w5 W') => And.intro (HF5.out.fr.new f).pc (And.intro (HF5.out.fr.new f).range (show W'.rangeAt zb 0 (regV rs) from fun j x hj => (f.cell (World.block_lt_of_cell? _ _ (HR5.out j x hj)) id _).trans (HR5.out j x hj))))
  have HX5 := Lib.hid ((Fr.refl (fun _ => False) w5).drew)
  generalize w5.drew = W5 at HX5 ⊢
  have s5 := HT.out W5 HX5.out
  have heq : ∀ w, (binOp .neq 48 (.agg (regV rs).toArray) (.agg (regV rs).toArray)).run Tryd.prog w = .ok (.bool false) w := fun w => arr_neq rs hlen w
  have HEQ := Lib.hid heq
  refine wpAnyH_take (i := 0) (v := ?_) rfl (by kernel_rfl) (by kernel_rfl) (by kernel_rfl) (fun _ _ _ h => h) (Or.inl ⟨by rfl, ?_⟩) s5 ?_
  rotate_left
  · intro w hSw; first | (obtain ⟨s1, s2, s3, s4, s5, s6, s7, s8⟩ := hSw; go_simp; rfl) | (obtain ⟨s1, s2, s3, s4, s5, s6, s7⟩ := hSw; go_simp; rfl) | (obtain ⟨s1, s2, s3⟩ := hSw; go_simp; rfl) | (obtain ⟨s1, s2⟩ := hSw; go_simp; rfl) | (have s1 := hSw; go_simp; rfl)
  go_simp
  refine wpAnyH_take (i := 1) (v := ?_) rfl (by kernel_rfl) (by kernel_rfl) (by kernel_rfl) (fun _ _ _ h => h) (Or.inl ⟨by rfl, ?_⟩) s5 ?_
  rotate_left
  · intro w hSw; first | (obtain ⟨s1, s2, s3, s4, s5, s6, s7, s8⟩ := hSw; go_simp; rfl) | (obtain ⟨s1, s2, s3, s4, s5, s6, s7⟩ := hSw; go_simp; rfl) | (obtain ⟨s1, s2, s3⟩ := hSw; go_simp; rfl) | (obtain ⟨s1, s2⟩ := hSw; go_simp; rfl) | (have s1 := hSw; go_simp; rfl)
  go_simp
  refine wpAnyH_take (i := 2) (v := ?_) rfl (by kernel_rfl) (by kernel_rfl) (by kernel_rfl) (fun _ _ _ h => h) (Or.inl ⟨by rfl, ?_⟩) s5 ?_
  rotate_left
  · intro w hSw; first | (obtain ⟨s1, s2, s3, s4, s5, s6, s7, s8⟩ := hSw; go_simp; rfl) | (obtain ⟨s1, s2, s3, s4, s5, s6, s7⟩ := hSw; go_simp; rfl) | (obtain ⟨s1, s2, s3⟩ := hSw; go_simp; rfl) | (obtain ⟨s1, s2⟩ := hSw; go_simp; rfl) | (have s1 := hSw; go_simp; rfl)
  go_simp
  refine wpAnyH_take (i := 3) (v := ?_) rfl (by kernel_rfl) (by kernel_rfl) (by kernel_rfl) (fun _ _ _ h => h) (Or.inl ⟨by rfl, ?_⟩) s5 ?_
  rotate_left
  · intro w hSw; first | (obtain ⟨s1, s2, s3, s4, s5, s6, s7, s8⟩ := hSw; go_simp; rfl) | (obtain ⟨s1, s2, s3, s4, s5, s6, s7⟩ := hSw; go_simp; rfl) | (obtain ⟨s1, s2, s3⟩ := hSw; go_simp; rfl) | (obtain ⟨s1, s2⟩ := hSw; go_simp; rfl) | (have s1 := hSw; go_simp; rfl)
  go_simp
  refine wpAnyH_take (i := 4) (v := ?_) rfl (by kernel_rfl) (by kernel_rfl) (by kernel_rfl) (fun _ _ _ h => h) (Or.inl ⟨by rfl, ?_⟩) s5 ?_
  rotate_left
  · intro w hSw; first | (obtain ⟨s1, s2, s3, s4, s5, s6, s7, s8⟩ := hSw; go_simp; rfl) | (obtain ⟨s1, s2, s3, s4, s5, s6, s7⟩ := hSw; go_simp; rfl) | (obtain ⟨s1, s2, s3⟩ := hSw; go_simp; rfl) | (obtain ⟨s1, s2⟩ := hSw; go_simp; rfl) | (have s1 := hSw; go_simp; rfl)
  go_simp
  refine wpAnyH_take (i := 5) (v := ?_) rfl (by kernel_rfl) (by kernel_rfl) (by kernel_rfl) (fun _ _ _ h => h) (Or.inl ⟨by rfl, ?_⟩) s5 ?_
  rotate_left
  · intro w hSw; first | (obtain ⟨s1, s2, s3, s4, s5, s6, s7, s8⟩ := hSw; go_simp; rfl) | (obtain ⟨s1, s2, s3, s4, s5, s6, s7⟩ := hSw; go_simp; rfl) | (obtain ⟨s1, s2, s3⟩ := hSw; go_simp; rfl) | (obtain ⟨s1, s2⟩ := hSw; go_simp; rfl) | (have s1 := hSw; go_simp; rfl)
  go_simp
  refine wpAnyH_take (i := 6) (v := ?_) rfl (by kernel_rfl) (by kernel_rfl) (by kernel_rfl) (fun _ _ _ h => h) (Or.inl ⟨by rfl, ?_⟩) s5 ?_
  rotate_left
  · intro w hSw; first | (obtain ⟨s1, s2, s3, s4, s5, s6, s7, s8⟩ := hSw; go_simp; rfl) | (obtain ⟨s1, s2, s3, s4, s5, s6, s7⟩ := hSw; go_simp; rfl) | (obtain ⟨s1, s2, s3⟩ := hSw; go_simp; rfl) | (obtain ⟨s1, s2⟩ := hSw; go_simp; rfl) | (have s1 := hSw; go_simp; rfl)
  go_simp
  refine wpAnyH_take (i := 7) (v := ?_) rfl (by kernel_rfl) (by kernel_rfl) (by kernel_rfl) (fun _ _ _ h => h) (Or.inl ⟨by rfl, ?_⟩) s5 ?_
  rotate_left
  · intro w hSw; first | (obtain ⟨s1, s2, s3, s4, s5, s6, s7, s8⟩ := hSw; go_simp; rfl) | (obtain ⟨s1, s2, s3, s4, s5, s6, s7⟩ := hSw; go_simp; rfl) | (obtain ⟨s1, s2, s3⟩ := hSw; go_simp; rfl) | (obtain ⟨s1, s2⟩ := hSw; go_simp; rfl) | (have s1 := hSw; go_simp; rfl)
  go_simp
  refine heldOne (i := 8) (by kernel_rfl) rfl (by rfl) (fun K hK => ?_)
  go_simp
  refine (no_any _ _ _ _).mono ?_
  rintro e w6 ⟨f1, rfl, hf1, hn6⟩
  have HX6 := Lib.hid (HX5.out.trans hn6)
  have s6 := HT.out w6 HX6.out
  have HF1 := Lib.hid (failN_of hf1)
  refine hK.out _ _ s6 ?_
  clear hK K s5 hn6 hf1
  refine heldOne (i := 9) (by kernel_rfl) rfl (by rfl) (fun K hK => ?_)
  go_simp
  refine (in_any _ _ _ _ _ _ HF1.out (by simp)).mono ?_
  rintro e w7 ⟨f2, rfl, hf2, hn7⟩
  have HX7 := Lib.hid (HX6.out.trans hn7)
  have s7 := HT.out w7 HX7.out
  have HF2 := Lib.hid (show TellsF w7 f2 (inL vmL 0 memL (some ((q : Int), 2))) from hf2)
  refine hK.out _ _ s7 ?_
  clear hK K s6 hn7 hf2 HF1
  refine heldOne (i := 10) (by kernel_rfl) rfl (by rfl) (fun K hK => ?_)
  go_simp
  refine (same_tells er f2 _ w7 (HG5.out.keep HX7.out id) (HER.out.new HX7.out) HF2.out (few_in _ _ _ _)).mono ?_
  rintro e w8 ⟨rfl, hn8⟩
  have HX8 := Lib.hid (HX7.out.trans hn8)
  have s8 := HT.out w8 HX8.out
  refine hK.out _ _ s8 ?_
  clear hK K s7 hn8 HF2
  refine wpAnyH_take (i := 11) (v := ?_) rfl (by kernel_rfl) (by kernel_rfl) (by kernel_rfl) (fun _ _ _ h => h) (Or.inl ⟨by rfl, ?_⟩) s8 ?_
  rotate_left
  · intro w hSw; first | (obtain ⟨s1, s2, s3, s4, s5, s6, s7, s8⟩ := hSw; go_simp; rfl) | (obtain ⟨s1, s2, s3, s4, s5, s6, s7⟩ := hSw; go_simp; rfl) | (obtain ⟨s1, s2, s3⟩ := hSw; go_simp; rfl) | (obtain ⟨s1, s2⟩ := hSw; go_simp; rfl) | (have s1 := hSw; go_simp; rfl)
  go_simp
  refine wpAnyH_take (i := 12) (v := ?_) rfl (by kernel_rfl) (by kernel_rfl) (by kernel_rfl) (fun _ _ _ h => h) (Or.inl ⟨by rfl, ?_⟩) s8 ?_
  rotate_left
  · intro w hSw; first | (obtain ⟨s1, s2, s3, s4, s5, s6, s7, s8⟩ := hSw; go_simp; rfl) | (obtain ⟨s1, s2, s3, s4, s5, s6, s7⟩ := hSw; go_simp; rfl) | (obtain ⟨s1, s2, s3⟩ := hSw; go_simp; rfl) | (obtain ⟨s1, s2⟩ := hSw; go_simp; rfl) | (have s1 := hSw; go_simp; rfl)
  go_simp
  refine wpAnyH_take (i := 13) (v := ?_) rfl (by kernel_rfl) (by kernel_rfl) (by kernel_rfl) (fun _ _ _ h => h) (Or.inl ⟨by rfl, ?_⟩) s8 ?_
  rotate_left
  · intro w hSw; first | (obtain ⟨s1, s2, s3, s4, s5, s6, s7, s8⟩ := hSw; go_simp; rfl) | (obtain ⟨s1, s2, s3, s4, s5, s6, s7⟩ := hSw; go_simp; rfl) | (obtain ⟨s1, s2, s3⟩ := hSw; go_simp; rfl) | (obtain ⟨s1, s2⟩ := hSw; go_simp; rfl) | (have s1 := hSw; go_simp; rfl)
  go_simp
  refine wpAnyH_take (i := 14) (v := ?_) rfl (by kernel_rfl) (by kernel_rfl) (by kernel_rfl) (fun _ _ _ h => h) (Or.inl ⟨by rfl, ?_⟩) s8 ?_
  rotate_left
  · intro w hSw; first | (obtain ⟨s1, s2, s3, s4, s5, s6, s7, s8⟩ := hSw; go_simp; rfl) | (obtain ⟨s1, s2, s3, s4, s5, s6, s7⟩ := hSw; go_simp; rfl) | (obtain ⟨s1, s2, s3⟩ := hSw; go_simp; rfl) | (obtain ⟨s1, s2⟩ := hSw; go_simp; rfl) | (have s1 := hSw; go_simp; rfl)
  go_simp
  refine wpAnyH_take (i := 15) (v := ?_) rfl (by kernel_rfl) (by kernel_rfl) (by kernel_rfl) (fun _ _ _ h => h) (Or.inl ⟨by rfl, ?_⟩) s8 ?_
  rotate_left
  · intro w hSw; first | (obtain ⟨s1, s2, s3, s4, s5, s6, s7, s8⟩ := hSw; go_simp; rfl) | (obtain ⟨s1, s2, s3, s4, s5, s6, s7⟩ := hSw; go_simp; rfl) | (obtain ⟨s1, s2, s3⟩ := hSw; go_simp; rfl) | (obtain ⟨s1, s2⟩ := hSw; go_simp; rfl) | (have s1 := hSw; go_simp; rfl)
  go_simp
  refine wpAnyH_take (i := 16) (v := ?_) rfl (by kernel_rfl) (by kernel_rfl) (by kernel_rfl) (fun _ _ _ h => h) (Or.inl ⟨by rfl, ?_⟩) s8 ?_
  rotate_left
  · intro w hSw; first | (obtain ⟨s1, s2, s3, s4, s5, s6, s7, s8⟩ := hSw; go_simp; rfl) | (obtain ⟨s1, s2, s3, s4, s5, s6, s7⟩ := hSw; go_simp; rfl) | (obtain ⟨s1, s2, s3⟩ := hSw; go_simp; rfl) | (obtain ⟨s1, s2⟩ := hSw; go_simp; rfl) | (have s1 := hSw; go_simp; rfl)
  go_simp
  refine wpAnyH_take (i := 17) (v := .agg (regV rs).toArray) rfl (by kernel_rfl) (by kernel_rfl) (by kernel_rfl) (fun _ _ _ h => h) (yieldsIf_load_mid (by rfl) 48 (.tmp 70) rfl fb 1 rfl (regV rs) _ (fun w h => h.2.1) Tryd.underlying48 rfl HRL.out) s8 ?_
  go_simp
  refine wpAnyH_take (i := 18) (v := .agg (regV rs).toArray) rfl (by kernel_rfl) (by kernel_rfl) (by kernel_rfl) (fun _ _ _ h => h) (yieldsIf_load_mid (by rfl) 48 (.tmp 13) rfl zb 0 rfl (regV rs) _ (fun w h => h.2.2) Tryd.underlying48 rfl HRL.out) s8 ?_
  go_simp
  refine wpAnyH_take (i := 19) (v := ?_) rfl (by kernel_rfl) (by kernel_rfl) (by kernel_rfl) (fun _ _ _ h => h) (Or.inl ⟨by rfl, ?_⟩) s8 ?_
  rotate_left
  · intro w hSw; first | (obtain ⟨s1, s2, s3, s4, s5, s6, s7, s8⟩ := hSw; go_simp; rfl) | (obtain ⟨s1, s2, s3, s4, s5, s6, s7⟩ := hSw; go_simp; rfl) | (obtain ⟨s1, s2, s3⟩ := hSw; go_simp; rfl) | (obtain ⟨s1, s2⟩ := hSw; go_simp; rfl) | (have s1 := hSw; go_simp; rfl)
  go_simp
  refine wpAnyH_take (i := 20) (v := ?_) rfl (by kernel_rfl) (by kernel_rfl) (by kernel_rfl) (fun _ _ _ h => h) (Or.inl ⟨by rfl, ?_⟩) s8 ?_
  rotate_left
  · intro w hSw; first | (obtain ⟨s1, s2, s3, s4, s5, s6, s7, s8⟩ := hSw; go_simp; rfl) | (obtain ⟨s1, s2, s3, s4, s5, s6, s7⟩ := hSw; go_simp; rfl) | (obtain ⟨s1, s2, s3⟩ := hSw; go_simp; rfl) | (obtain ⟨s1, s2⟩ := hSw; go_simp; rfl) | (have s1 := hSw; go_simp; rfl)
  go_simp
  refine wpAnyH_take (i := 21) (v := ?_) rfl (by kernel_rfl) (by kernel_rfl) (by kernel_rfl) (fun _ _ _ h => h) (Or.inl ⟨by rfl, ?_⟩) s8 ?_
  rotate_left
  · intro w hSw; first | (obtain ⟨s1, s2, s3, s4, s5, s6, s7, s8⟩ := hSw; go_simp; rfl) | (obtain ⟨s1, s2, s3, s4, s5, s6, s7⟩ := hSw; go_simp; rfl) | (obtain ⟨s1, s2, s3⟩ := hSw; go_simp; rfl) | (obtain ⟨s1, s2⟩ := hSw; go_simp; rfl) | (have s1 := hSw; go_simp; rfl)
  go_simp
  refine wpAnyH_take (i := 22) (v := ?_) rfl (by kernel_rfl) (by kernel_rfl) (by kernel_rfl) (fun _ _ _ h => h) (Or.inl ⟨by rfl, ?_⟩) s8 ?_
  rotate_left
  · intro w hSw; first | (obtain ⟨s1, s2, s3, s4, s5, s6, s7, s8⟩ := hSw; go_simp; rfl) | (obtain ⟨s1, s2, s3, s4, s5, s6, s7⟩ := hSw; go_simp; rfl) | (obtain ⟨s1, s2, s3⟩ := hSw; go_simp; rfl) | (obtain ⟨s1, s2⟩ := hSw; go_simp; rfl) | (have s1 := hSw; go_simp; rfl)
  go_simp
  refine wpAnyH_take (i := 23) (v := ?_) rfl (by kernel_rfl) (by kernel_rfl) (by kernel_rfl) (fun _ _ _ h => h) (Or.inl ⟨by rfl, ?_⟩) s8 ?_
  rotate_left
  · intro w hSw; first | (obtain ⟨s1, s2, s3, s4, s5, s6, s7, s8⟩ := hSw; go_simp; rfl) | (obtain ⟨s1, s2, s3, s4, s5, s6, s7⟩ := hSw; go_simp; rfl) | (obtain ⟨s1, s2, s3⟩ := hSw; go_simp; rfl) | (obtain ⟨s1, s2⟩ := hSw; go_simp; rfl) | (have s1 := hSw; go_simp; rfl)
  go_simp
  refine wpAnyH_take (i := 24) (v := ?_) rfl (by kernel_rfl) (by kernel_rfl) (by kernel_rfl) (fun _ _ _ h => h) (Or.inl ⟨by rfl, ?_⟩) s8 ?_
  rotate_left
  · intro w hSw; first | (obtain ⟨s1, s2, s3, s4, s5, s6, s7, s8⟩ := hSw; go_simp; rfl) | (obtain ⟨s1, s2, s3, s4, s5, s6, s7⟩ := hSw; go_simp; rfl) | (obtain ⟨s1, s2, s3⟩ := hSw; go_simp; rfl) | (obtain ⟨s1, s2⟩ := hSw; go_simp; rfl) | (have s1 := hSw; go_simp; rfl)
  go_simp
  refine wpAnyH_take (i := 25) (v := ?_) rfl (by kernel_rfl) (by kernel_rfl) (by kernel_rfl) (fun _ _ _ h => h) (Or.inl ⟨by rfl, ?_⟩) s8 ?_
  rotate_left
  · intro w hSw; first | (obtain ⟨s1, s2, s3, s4, s5, s6, s7, s8⟩ := hSw; go_simp; rfl) | (obtain ⟨s1, s2, s3, s4, s5, s6, s7⟩ := hSw; go_simp; rfl) | (obtain ⟨s1, s2, s3⟩ := hSw; go_simp; rfl) | (obtain ⟨s1, s2⟩ := hSw; go_simp; rfl) | (have s1 := hSw; go_simp; rfl)
  go_simp
  refine wpAnyH_take (i := 26) (v := ?_) rfl (by kernel_rfl) (by kernel_rfl) (by kernel_rfl) (fun _ _ _ h => h) (Or.inl ⟨by rfl, ?_⟩) s8 ?_
  rotate_left
  · intro w hSw; first | (obtain ⟨s1, s2, s3, s4, s5, s6, s7, s8⟩ := hSw; go_simp; rfl) | (obtain ⟨s1, s2, s3, s4, s5, s6, s7⟩ := hSw; go_simp; rfl) | (obtain ⟨s1, s2, s3⟩ := hSw; go_simp; rfl) | (obtain ⟨s1, s2⟩ := hSw; go_simp; rfl) | (have s1 := hSw; go_simp; rfl)
  go_simp
  refine wpAnyH_take (i := 27) (v := ?_) rfl (by kernel_rfl) (by kernel_rfl) (by kernel_rfl) (fun _ _ _ h => h) (Or.inl ⟨by rfl, ?_⟩) s8 ?_
  rotate_left
  · intro w hSw; first | (obtain ⟨s1, s2, s3, s4, s5, s6, s7, s8⟩ := hSw; go_simp; rfl) | (obtain ⟨s1, s2, s3, s4, s5, s6, s7⟩ := hSw; go_simp; rfl) | (obtain ⟨s1, s2, s3⟩ := hSw; go_simp; rfl) | (obtain ⟨s1, s2⟩ := hSw; go_simp; rfl) | (have s1 := hSw; go_simp; rfl)
  go_simp
  refine wpAnyH_done (by kernel_rfl) ?_ _
  clear s8 tq tq2 heq HT
  have hx8 := HX8.out
  have hb8 : w8.heap[cg]? = w5.heap[cg]? := hx8.block cg (lt_of_block HB5.out) id
  have HB8 := Lib.hid (hb8.trans HB5.out)
  have HF8 := Lib.hid (HF5.out.new hx8)
  have HM8 := Lib.hid (HM5.out.keep hx8 id id id)
  have HR8 := Lib.hid (show w8.rangeAt zb 0 (regV rs) from fun j x hj => (hx8.cell (World.block_lt_of_cell? _ _ (HR5.out j x hj)) id _).trans (HR5.out j x hj))
  have HN8 := Lib.hid (HN6.out.trans hx8)
  have HI8 := Lib.hid (HI1.out.keep hx8 id)
  clear hx8 hb8 HB5 HF5 HM5 HR5 HN6 HI1 HX5 HX6 HX7 HX8 HG5 HER
  have y0 := HF8.out.fr.pc
  have yz := HF8.out.fr.free
  have hs9 := HF8.out.setPc 1
  have hf9 : Fr (· = fb) w8 (w8.setCell ⟨fb, 0, none⟩ (.int .i64 1)) := Fr.setCell (S := (· = fb)) (Fr.refl _ _) (fun _ => rfl) _
  go_wp2_with fail
  generalize w8.setCell ⟨fb, 0, none⟩ (.int .i64 1) = w9 at hs9 hf9 ⊢
  have hfw : w.heap.size ≤ fb := hng fb (.inl rfl)
  have hcf : cg ≠ fb := by omega
  have hi9 := HI8.out.keep hf9 hcf
  have hb9 : w9.heap[cg]? = w8.heap[cg]? := hf9.block cg (lt_of_block HB8.out) hcf
  have hm9 := HM8.out.keep hf9 (by omega) (by omega) (by omega)
  have hr9 : w9.rangeAt zb 0 (regV rs) := fun j x hj => (hf9.cell (show zb < w8.heap.size from World.block_lt_of_cell? _ _ (HR8.out j x hj)) (show ¬ zb = fb by omega) _).trans (HR8.out j x hj)
  have hn9 : New w w9 := HN8.out.then hf9 (fun i hi e => by omega)
  refine (step_away fb 0 v (memV b) _ cg 0 3 3 1 56 0 0 0 0 0 0 w9 hs9 hi9 (by omega) (by omega) (by omega) rfl good_yld (by omega)).mono ?_
  rintro e w10 ⟨rfl, hn10⟩
  have HF10 := Lib.hid (hs9.new hn10)
  have HB10 := Lib.hid (((hn10.block cg (by rw [← hb9] at HB8; exact lt_of_block HB8.out) id).trans hb9).trans HB8.out)
  have HM10 := Lib.hid (hm9.keep hn10 id id id)
  have HR10 := Lib.hid (show w10.rangeAt zb 0 (regV rs) from fun j x hj => (hn10.cell (World.block_lt_of_cell? _ _ (hr9 j x hj)) id _).trans (hr9 j x hj))
  have HN10 := Lib.hid (hn9.trans hn10)
  clear y0 yz hs9 hf9 hi9 hb9 hm9 hr9 hn9 hn10 HF8 HB8 HM8 HR8 HN8 HI8
  go_wp2_with fail
  refine heldStart (fun wz => wz.cell? ⟨fb, 0, none⟩ = some (.int .i64 1) ∧ wz.rangeAt fb 1 (regV rs) ∧ wz.rangeAt zb 0 (regV rs)) (by kernel_rfl) ?_
  have HX := Lib.hid ((Fr.refl (fun _ => False) w10).drew)
  have HT := Lib.hid (fun (W' : World) (f : New w10 W') => And.intro (HF10.out.fr.new f).pc (And.intro (HF10.out.fr.new f).range (show W'.rangeAt zb 0 (regV rs) from fun j x hj => (f.cell (World.block_lt_of_cell? _ _ (HR10.out j x hj)) id _).trans (HR10.out j x hj))))
  generalize w10.drew = w11 at HX ⊢
  have s11 := HT.out w11 HX.out
  have heq := HEQ.out
  refine wpAnyH_take (i := 0) (v := ?_) rfl (by kernel_rfl) (by kernel_rfl) (by kernel_rfl) (fun _ _ _ h => h) (Or.inl ⟨by rfl, ?_⟩) s11 ?_
  rotate_left
  · intro w hSw; first | (obtain ⟨s1, s2, s3, s4, s5, s6, s7, s8⟩ := hSw; go_simp; rfl) | (obtain ⟨s1, s2, s3, s4, s5, s6, s7⟩ := hSw; go_simp; rfl) | (obtain ⟨s1, s2, s3⟩ := hSw; go_simp; rfl) | (obtain ⟨s1, s2⟩ := hSw; go_simp; rfl) | (have s1 := hSw; go_simp; rfl)
  go_simp
  refine wpAnyH_take (i := 1) (v := ?_) rfl (by kernel_rfl) (by kernel_rfl) (by kernel_rfl) (fun _ _ _ h => h) (Or.inl ⟨by rfl, ?_⟩) s11 ?_
  rotate_left
  · intro w hSw; first | (obtain ⟨s1, s2, s3, s4, s5, s6, s7, s8⟩ := hSw; go_simp; rfl) | (obtain ⟨s1, s2, s3, s4, s5, s6, s7⟩ := hSw; go_simp; rfl) | (obtain ⟨s1, s2, s3⟩ := hSw; go_simp; rfl) | (obtain ⟨s1, s2⟩ := hSw; go_simp; rfl) | (have s1 := hSw; go_simp; rfl)
  go_simp
  refine wpAnyH_take (i := 2) (v := ?_) rfl (by kernel_rfl) (by kernel_rfl) (by kernel_rfl) (fun _ _ _ h => h) (Or.inl ⟨by rfl, ?_⟩) s11 ?_
  rotate_left
  · intro w hSw; first | (obtain ⟨s1, s2, s3, s4, s5, s6, s7, s8⟩ := hSw; go_simp; rfl) | (obtain ⟨s1, s2, s3, s4, s5, s6, s7⟩ := hSw; go_simp; rfl) | (obtain ⟨s1, s2, s3⟩ := hSw; go_simp; rfl) | (obtain ⟨s1, s2⟩ := hSw; go_simp; rfl) | (have s1 := hSw; go_simp; rfl)
  go_simp
  refine wpAnyH_take (i := 3) (v := ?_) rfl (by kernel_rfl) (by kernel_rfl) (by kernel_rfl) (fun _ _ _ h => h) (Or.inl ⟨by rfl, ?_⟩) s11 ?_
  rotate_left
  · intro w hSw; first | (obtain ⟨s1, s2, s3, s4, s5, s6, s7, s8⟩ := hSw; go_simp; rfl) | (obtain ⟨s1, s2, s3, s4, s5, s6, s7⟩ := hSw; go_simp; rfl) | (obtain ⟨s1, s2, s3⟩ := hSw; go_simp; rfl) | (obtain ⟨s1, s2⟩ := hSw; go_simp; rfl) | (have s1 := hSw; go_simp; rfl)
  go_simp
  refine wpAnyH_take (i := 4) (v := ?_) rfl (by kernel_rfl) (by kernel_rfl) (by kernel_rfl) (fun _ _ _ h => h) (Or.inl ⟨by rfl, ?_⟩) s11 ?_
  rotate_left
  · intro w hSw; first | (obtain ⟨s1, s2, s3, s4, s5, s6, s7, s8⟩ := hSw; go_simp; rfl) | (obtain ⟨s1, s2, s3, s4, s5, s6, s7⟩ := hSw; go_simp; rfl) | (obtain ⟨s1, s2, s3⟩ := hSw; go_simp; rfl) | (obtain ⟨s1, s2⟩ := hSw; go_simp; rfl) | (have s1 := hSw; go_simp; rfl)
  go_simp
  refine wpAnyH_take (i := 5) (v := ?_) rfl (by kernel_rfl) (by kernel_rfl) (by kernel_rfl) (fun _ _ _ h => h) (Or.inl ⟨by rfl, ?_⟩) s11 ?_
  rotate_left
  · intro w hSw; first | (obtain ⟨s1, s2, s3, s4, s5, s6, s7, s8⟩ := hSw; go_simp; rfl) | (obtain ⟨s1, s2, s3, s4, s5, s6, s7⟩ := hSw; go_simp; rfl) | (obtain ⟨s1, s2, s3⟩ := hSw; go_simp; rfl) | (obtain ⟨s1, s2⟩ := hSw; go_simp; rfl) | (have s1 := hSw; go_simp; rfl)
  go_simp
  refine wpAnyH_take (i := 6) (v := ?_) rfl (by kernel_rfl) (by kernel_rfl) (by kernel_rfl) (fun _ _ _ h => h) (Or.inl ⟨by rfl, ?_⟩) s11 ?_
  rotate_left
  · intro w hSw; first | (obtain ⟨s1, s2, s3, s4, s5, s6, s7, s8⟩ := hSw; go_simp; rfl) | (obtain ⟨s1, s2, s3, s4, s5, s6, s7⟩ := hSw; go_simp; rfl) | (obtain ⟨s1, s2, s3⟩ := hSw; go_simp; rfl) | (obtain ⟨s1, s2⟩ := hSw; go_simp; rfl) | (have s1 := hSw; go_simp; rfl)
  go_simp
  refine wpAnyH_take (i := 7) (v := ?_) rfl (by kernel_rfl) (by kernel_rfl) (by kernel_rfl) (fun _ _ _ h => h) (Or.inl ⟨by rfl, ?_⟩) s11 ?_
  rotate_left
  · intro w hSw; first | (obtain ⟨s1, s2, s3, s4, s5, s6, s7, s8⟩ := hSw; go_simp; rfl) | (obtain ⟨s1, s2, s3, s4, s5, s6, s7⟩ := hSw; go_simp; rfl) | (obtain ⟨s1, s2, s3⟩ := hSw; go_simp; rfl) | (obtain ⟨s1, s2⟩ := hSw; go_simp; rfl) | (have s1 := hSw; go_simp; rfl)
  go_simp
  refine wpAnyH_take (i := 8) (v := ?_) rfl (by kernel_rfl) (by kernel_rfl) (by kernel_rfl) (fun _ _ _ h => h) (Or.inl ⟨by rfl, ?_⟩) s11 ?_
  rotate_left
  · intro w hSw; first | (obtain ⟨s1, s2, s3, s4, s5, s6, s7, s8⟩ := hSw; go_simp; rfl) | (obtain ⟨s1, s2, s3, s4, s5, s6, s7⟩ := hSw; go_simp; rfl) | (obtain ⟨s1, s2, s3⟩ := hSw; go_simp; rfl) | (obtain ⟨s1, s2⟩ := hSw; go_simp; rfl) | (have s1 := hSw; go_simp; rfl)
  go_simp
  refine wpAnyH_take (i := 9) (v := ?_) rfl (by kernel_rfl) (by kernel_rfl) (by kernel_rfl) (fun _ _ _ h => h) (Or.inl ⟨by rfl, ?_⟩) s11 ?_
  rotate_left
  · intro w hSw; first | (obtain ⟨s1, s2, s3, s4, s5, s6, s7, s8⟩ := hSw; go_simp; rfl) | (obtain ⟨s1, s2, s3, s4, s5, s6, s7⟩ := hSw; go_simp; rfl) | (obtain ⟨s1, s2, s3⟩ := hSw; go_simp; rfl) | (obtain ⟨s1, s2⟩ := hSw; go_simp; rfl) | (have s1 := hSw; go_simp; rfl)
  go_simp
  refine wpAnyH_take (i := 10) (v := .agg (regV rs).toArray) rfl (by kernel_rfl) (by kernel_rfl) (by kernel_rfl) (fun _ _ _ h => h) (yieldsIf_load_mid (by rfl) 48 (.tmp 102) rfl fb 1 rfl (regV rs) _ (fun w h => h.2.1) Tryd.underlying48 rfl HRL.out) s11 ?_
  go_simp
  refine wpAnyH_take (i := 11) (v := .agg (regV rs).toArray) rfl (by kernel_rfl) (by kernel_rfl) (by kernel_rfl) (fun _ _ _ h => h) (yieldsIf_load_mid (by rfl) 48 (.tmp 13) rfl zb 0 rfl (regV rs) _ (fun w h => h.2.2) Tryd.underlying48 rfl HRL.out) s11 ?_
  go_simp
  refine wpAnyH_take (i := 12) (v := ?_) rfl (by kernel_rfl) (by kernel_rfl) (by kernel_rfl) (fun _ _ _ h => h) (Or.inl ⟨by rfl, ?_⟩) s11 ?_
  rotate_left
  · intro w hSw; first | (obtain ⟨s1, s2, s3, s4, s5, s6, s7, s8⟩ := hSw; go_simp; rfl) | (obtain ⟨s1, s2, s3, s4, s5, s6, s7⟩ := hSw; go_simp; rfl) | (obtain ⟨s1, s2, s3⟩ := hSw; go_simp; rfl) | (obtain ⟨s1, s2⟩ := hSw; go_simp; rfl) | (have s1 := hSw; go_simp; rfl)
  go_simp
  refine wpAnyH_take (i := 13) (v := ?_) rfl (by kernel_rfl) (by kernel_rfl) (by kernel_rfl) (fun _ _ _ h => h) (Or.inl ⟨by rfl, ?_⟩) s11 ?_
  rotate_left
  · intro w hSw; first | (obtain ⟨s1, s2, s3, s4, s5, s6, s7, s8⟩ := hSw; go_simp; rfl) | (obtain ⟨s1, s2, s3, s4, s5, s6, s7⟩ := hSw; go_simp; rfl) | (obtain ⟨s1, s2, s3⟩ := hSw; go_simp; rfl) | (obtain ⟨s1, s2⟩ := hSw; go_simp; rfl) | (have s1 := hSw; go_simp; rfl)
  go_simp
  refine wpAnyH_take (i := 14) (v := ?_) rfl (by kernel_rfl) (by kernel_rfl) (by kernel_rfl) (fun _ _ _ h => h) (Or.inl ⟨by rfl, ?_⟩) s11 ?_
  rotate_left
  · intro w hSw; first | (obtain ⟨s1, s2, s3, s4, s5, s6, s7, s8⟩ := hSw; go_simp; rfl) | (obtain ⟨s1, s2, s3, s4, s5, s6, s7⟩ := hSw; go_simp; rfl) | (obtain ⟨s1, s2, s3⟩ := hSw; go_simp; rfl) | (obtain ⟨s1, s2⟩ := hSw; go_simp; rfl) | (have s1 := hSw; go_simp; rfl)
  go_simp
  refine wpAnyH_take (i := 15) (v := ?_) rfl (by kernel_rfl) (by kernel_rfl) (by kernel_rfl) (fun _ _ _ h => h) (Or.inl ⟨by rfl, ?_⟩) s11 ?_
  rotate_left
  · intro w hSw; first | (obtain ⟨s1, s2, s3, s4, s5, s6, s7, s8⟩ := hSw; go_simp; rfl) | (obtain ⟨s1, s2, s3, s4, s5, s6, s7⟩ := hSw; go_simp; rfl) | (obtain ⟨s1, s2, s3⟩ := hSw; go_simp; rfl) | (obtain ⟨s1, s2⟩ := hSw; go_simp; rfl) | (have s1 := hSw; go_simp; rfl)
  go_simp
  refine wpAnyH_take (i := 16) (v := ?_) rfl (by kernel_rfl) (by kernel_rfl) (by kernel_rfl) (fun _ _ _ h => h) (Or.inl ⟨by rfl, ?_⟩) s11 ?_
  rotate_left
  · intro w hSw; first | (obtain ⟨s1, s2, s3, s4, s5, s6, s7, s8⟩ := hSw; go_simp; rfl) | (obtain ⟨s1, s2, s3, s4, s5, s6, s7⟩ := hSw; go_simp; rfl) | (obtain ⟨s1, s2, s3⟩ := hSw; go_simp; rfl) | (obtain ⟨s1, s2⟩ := hSw; go_simp; rfl) | (have s1 := hSw; go_simp; rfl)
  go_simp
  refine wpAnyH_take (i := 17) (v := ?_) rfl (by kernel_rfl) (by kernel_rfl) (by kernel_rfl) (fun _ _ _ h => h) (Or.inl ⟨by rfl, ?_⟩) s11 ?_
  rotate_left
  · intro w hSw; first | (obtain ⟨s1, s2, s3, s4, s5, s6, s7, s8⟩ := hSw; go_simp; rfl) | (obtain ⟨s1, s2, s3, s4, s5, s6, s7⟩ := hSw; go_simp; rfl) | (obtain ⟨s1, s2, s3⟩ := hSw; go_simp; rfl) | (obtain ⟨s1, s2⟩ := hSw; go_simp; rfl) | (have s1 := hSw; go_simp; rfl)
  go_simp
  refine wpAnyH_take (i := 18) (v := ?_) rfl (by kernel_rfl) (by kernel_rfl) (by kernel_rfl) (fun _ _ _ h => h) (Or.inl ⟨by rfl, ?_⟩) s11 ?_
  rotate_left
  · intro w hSw; first | (obtain ⟨s1, s2, s3, s4, s5, s6, s7, s8⟩ := hSw; go_simp; rfl) | (obtain ⟨s1, s2, s3, s4, s5, s6, s7⟩ := hSw; go_simp; rfl) | (obtain ⟨s1, s2, s3⟩ := hSw; go_simp; rfl) | (obtain ⟨s1, s2⟩ := hSw; go_simp; rfl) | (have s1 := hSw; go_simp; rfl)
  go_simp
  refine wpAnyH_take (i := 19) (v := ?_) rfl (by kernel_rfl) (by kernel_rfl) (by kernel_rfl) (fun _ _ _ h => h) (Or.inl ⟨by rfl, ?_⟩) s11 ?_
  rotate_left
  · intro w hSw; first | (obtain ⟨s1, s2, s3, s4, s5, s6, s7, s8⟩ := hSw; go_simp; rfl) | (obtain ⟨s1, s2, s3, s4, s5, s6, s7⟩ := hSw; go_simp; rfl) | (obtain ⟨s1, s2, s3⟩ := hSw; go_simp; rfl) | (obtain ⟨s1, s2⟩ := hSw; go_simp; rfl) | (have s1 := hSw; go_simp; rfl)
  go_simp
  refine wpAnyH_take (i := 20) (v := ?_) rfl (by kernel_rfl) (by kernel_rfl) (by kernel_rfl) (fun _ _ _ h => h) (Or.inl ⟨by rfl, ?_⟩) s11 ?_
  rotate_left
  · intro w hSw; first | (obtain ⟨s1, s2, s3, s4, s5, s6, s7, s8⟩ := hSw; go_simp; rfl) | (obtain ⟨s1, s2, s3, s4, s5, s6, s7⟩ := hSw; go_simp; rfl) | (obtain ⟨s1, s2, s3⟩ := hSw; go_simp; rfl) | (obtain ⟨s1, s2⟩ := hSw; go_simp; rfl) | (have s1 := hSw; go_simp; rfl)
  go_simp
  refine wpAnyH_done (by kernel_rfl) ?_ _
  clear s11 heq HT
  have hx := HX.out
  have HB11 := Lib.hid ((hx.block cg (lt_of_block HB10.out) id).trans HB10.out)
  have HF11 := Lib.hid (HF10.out.new hx)
  have HM11 := Lib.hid (HM10.out.keep hx id id id)
  have HR11 := Lib.hid (show w11.rangeAt zb 0 (regV rs) from fun j x hj => (hx.cell (World.block_lt_of_cell? _ _ (HR10.out j x hj)) id _).trans (HR10.out j x hj))
  have HN11 := Lib.hid (HN10.out.trans hx)
  clear hx HX HB10 HF10 HM10 HR10 HN10
  have y0 := HF11.out.fr.pc
  have yz := HF11.out.fr.free
  have hs12 := HF11.out.setPc (3 + (p : Int))
  have hf12 : Fr (· = fb) w11 (w11.setCell ⟨fb, 0, none⟩ (.int .i64 (3 + (p : Int)))) := Fr.setCell (S := (· = fb)) (Fr.refl _ _) (fun _ => rfl) _
  go_wp2_with (go_at_call 9; refine (HWP.out _).mono ?_; rintro e w' ⟨rfl, rfl⟩)
  generalize w11.setCell ⟨fb, 0, none⟩ (.int .i64 (3 + (p : Int))) = w12 at hs12 hf12 ⊢
  have hb12 := (hf12.block cg (lt_of_block HB11.out) hcf).trans HB11.out
  have HM12 := Lib.hid (HM11.out.keep hf12 (by omega) (by omega) (by omega))
  have HR12 := Lib.hid (show w12.rangeAt zb 0 (regV rs) from fun j x hj => (hf12.cell (show zb < w11.heap.size from World.block_lt_of_cell? _ _ (HR11.out j x hj)) (show ¬ zb = fb by omega) _).trans (HR11.out j x hj))
  have HN12 := Lib.hid (HN11.out.then hf12 (fun i hi e => by omega))
  obtain ⟨a1, c1, rfl, hr1⟩ := intRow_of (show w12.ownsRow 0 3 1 v ([4, 5] : List Int).length (([4, 5] : List Int).map iV) from hs12.own)
  have HROW := Lib.hid hr1
  have HF12 := Lib.hid hs12
  clear y0 yz hs12 hf12 hb12 hr1 HB11 HF11 HM11 HR11 HN11
  refine (step_out fb 0 _ (memV b) _ (some ⟨cg, 0, none⟩) 3 3 w12 HF12.out (by omega) (.inr (by show ((3 : Nat) : Int) ≤ 3 + (p : Int); omega))).mono ?_
  rintro e w13 ⟨rfl, rfl⟩
  have y0 := HF12.out.fr.pc
  go_wp2_with fail
  refine heldStart (fun wz => wz.cell? ⟨fb, 0, none⟩ = some (.int .i64 (3 + (p : Int))) ∧ wz.rangeAt fb 1 (regV rs) ∧ wz.rangeAt zb 0 (regV rs) ∧ wz.cell? ⟨fb, 33, none⟩ = some (.slice a1 2 c1)) (by kernel_rfl) ?_
  have HX := Lib.hid ((Fr.refl (fun _ => False) w13).drew)
  have HT := Lib.hid (fun (W' : World) (f : New w13 W') => And.intro (HF12.out.fr.new f).pc (And.intro (HF12.out.fr.new f).range (And.intro (show W'.rangeAt zb 0 (regV rs) from fun j x hj => (f.cell (World.block_lt_of_cell? _ _ (HR12.out j x hj)) id _).trans (HR12.out j x hj)) (HF12.out.fr.new f).back)))
  generalize w13.drew = w14 at HX ⊢
  clear y0
  have s14 := HT.out w14 HX.out
  have heq := HEQ.out
  have t3 : ((3 + (p : Int)) != (3 + (p : Int))) = false := by simp
  refine wpAnyH_take (i := 0) (v := ?_) rfl (by kernel_rfl) (by kernel_rfl) (by kernel_rfl) (fun _ _ _ h => h) (Or.inl ⟨by rfl, ?_⟩) s14 ?_
  rotate_left
  · intro w hSw; first | (obtain ⟨s1, s2, s3, s4, s5, s6, s7, s8⟩ := hSw; go_simp; rfl) | (obtain ⟨s1, s2, s3, s4, s5, s6, s7⟩ := hSw; go_simp; rfl) | (obtain ⟨s1, s2, s3⟩ := hSw; go_simp; rfl) | (obtain ⟨s1, s2⟩ := hSw; go_simp; rfl) | (have s1 := hSw; go_simp; rfl)
  go_simp
  refine wpAnyH_take (i := 1) (v := ?_) rfl (by kernel_rfl) (by kernel_rfl) (by kernel_rfl) (fun _ _ _ h => h) (Or.inl ⟨by rfl, ?_⟩) s14 ?_
  rotate_left
  · intro w hSw; first | (obtain ⟨s1, s2, s3, s4, s5, s6, s7, s8⟩ := hSw; go_simp; rfl) | (obtain ⟨s1, s2, s3, s4, s5, s6, s7⟩ := hSw; go_simp; rfl) | (obtain ⟨s1, s2, s3⟩ := hSw; go_simp; rfl) | (obtain ⟨s1, s2⟩ := hSw; go_simp; rfl) | (have s1 := hSw; go_simp; rfl)
  go_simp
  refine wpAnyH_take (i := 2) (v := ?_) rfl (by kernel_rfl) (by kernel_rfl) (by kernel_rfl) (fun _ _ _ h => h) (Or.inl ⟨by rfl, ?_⟩) s14 ?_
  rotate_left
  · intro w hSw; first | (obtain ⟨s1, s2, s3, s4, s5, s6, s7, s8⟩ := hSw; go_simp; rfl) | (obtain ⟨s1, s2, s3, s4, s5, s6, s7⟩ := hSw; go_simp; rfl) | (obtain ⟨s1, s2, s3⟩ := hSw; go_simp; rfl) | (obtain ⟨s1, s2⟩ := hSw; go_simp; rfl) | (have s1 := hSw; go_simp; rfl)
  go_simp
  refine wpAnyH_take (i := 3) (v := ?_) rfl (by kernel_rfl) (by kernel_rfl) (by kernel_rfl) (fun _ _ _ h => h) (Or.inl ⟨by rfl, ?_⟩) s14 ?_
  rotate_left
  · intro w hSw; first | (obtain ⟨s1, s2, s3, s4, s5, s6, s7, s8⟩ := hSw; go_simp; rfl) | (obtain ⟨s1, s2, s3, s4, s5, s6, s7⟩ := hSw; go_simp; rfl) | (obtain ⟨s1, s2, s3⟩ := hSw; go_simp; rfl) | (obtain ⟨s1, s2⟩ := hSw; go_simp; rfl) | (have s1 := hSw; go_simp; rfl)
  go_simp
  refine wpAnyH_take (i := 4) (v := ?_) rfl (by kernel_rfl) (by kernel_rfl) (by kernel_rfl) (fun _ _ _ h => h) (Or.inl ⟨by rfl, ?_⟩) s14 ?_
  rotate_left
  · intro w hSw; first | (obtain ⟨s1, s2, s3, s4, s5, s6, s7, s8⟩ := hSw; go_simp; rfl) | (obtain ⟨s1, s2, s3, s4, s5, s6, s7⟩ := hSw; go_simp; rfl) | (obtain ⟨s1, s2, s3⟩ := hSw; go_simp; rfl) | (obtain ⟨s1, s2⟩ := hSw; go_simp; rfl) | (have s1 := hSw; go_simp; rfl)
  go_simp
  refine wpAnyH_take (i := 5) (v := ?_) rfl (by kernel_rfl) (by kernel_rfl) (by kernel_rfl) (fun _ _ _ h => h) (Or.inl ⟨by rfl, ?_⟩) s14 ?_
  rotate_left
  · intro w hSw; first | (obtain ⟨s1, s2, s3, s4, s5, s6, s7, s8⟩ := hSw; go_simp; rfl) | (obtain ⟨s1, s2, s3, s4, s5, s6, s7⟩ := hSw; go_simp; rfl) | (obtain ⟨s1, s2, s3⟩ := hSw; go_simp; rfl) | (obtain ⟨s1, s2⟩ := hSw; go_simp; rfl) | (have s1 := hSw; go_simp; rfl)
  go_simp
  refine wpAnyH_take (i := 6) (v := ?_) rfl (by kernel_rfl) (by kernel_rfl) (by kernel_rfl) (fun _ _ _ h => h) (Or.inl ⟨by rfl, ?_⟩) s14 ?_
  rotate_left
  · intro w hSw; first | (obtain ⟨s1, s2, s3, s4, s5, s6, s7, s8⟩ := hSw; go_simp; rfl) | (obtain ⟨s1, s2, s3, s4, s5, s6, s7⟩ := hSw; go_simp; rfl) | (obtain ⟨s1, s2, s3⟩ := hSw; go_simp; rfl) | (obtain ⟨s1, s2⟩ := hSw; go_simp; rfl) | (have s1 := hSw; go_simp; rfl)
  go_simp
  refine wpAnyH_take (i := 7) (v := ?_) rfl (by kernel_rfl) (by kernel_rfl) (by kernel_rfl) (fun _ _ _ h => h) (Or.inl ⟨by rfl, ?_⟩) s14 ?_
  rotate_left
  · intro w hSw; first | (obtain ⟨s1, s2, s3, s4, s5, s6, s7, s8⟩ := hSw; go_simp; rfl) | (obtain ⟨s1, s2, s3, s4, s5, s6, s7⟩ := hSw; go_simp; rfl) | (obtain ⟨s1, s2, s3⟩ := hSw; go_simp; rfl) | (obtain ⟨s1, s2⟩ := hSw; go_simp; rfl) | (have s1 := hSw; go_simp; rfl)
  go_simp
  refine wpAnyH_take (i := 8) (v := ?_) rfl (by kernel_rfl) (by kernel_rfl) (by kernel_rfl) (fun _ _ _ h => h) (Or.inl ⟨by rfl, ?_⟩) s14 ?_
  rotate_left
  · intro w hSw; first | (obtain ⟨s1, s2, s3, s4, s5, s6, s7, s8⟩ := hSw; go_simp; rfl) | (obtain ⟨s1, s2, s3, s4, s5, s6, s7⟩ := hSw; go_simp; rfl) | (obtain ⟨s1, s2, s3⟩ := hSw; go_simp; rfl) | (obtain ⟨s1, s2⟩ := hSw; go_simp; rfl) | (have s1 := hSw; go_simp; rfl)
  go_simp
  refine wpAnyH_take (i := 9) (v := ?_) rfl (by kernel_rfl) (by kernel_rfl) (by kernel_rfl) (fun _ _ _ h => h) (Or.inl ⟨by rfl, ?_⟩) s14 ?_
  rotate_left
  · intro w hSw; first | (obtain ⟨s1, s2, s3, s4, s5, s6, s7, s8⟩ := hSw; go_simp; rfl) | (obtain ⟨s1, s2, s3, s4, s5, s6, s7⟩ := hSw; go_simp; rfl) | (obtain ⟨s1, s2, s3⟩ := hSw; go_simp; rfl) | (obtain ⟨s1, s2⟩ := hSw; go_simp; rfl) | (have s1 := hSw; go_simp; rfl)
  go_simp
  refine wpAnyH_take (i := 10) (v := .agg (regV rs).toArray) rfl (by kernel_rfl) (by kernel_rfl) (by kernel_rfl) (fun _ _ _ h => h) (yieldsIf_load_mid (by rfl) 48 (.tmp 141) rfl fb 1 rfl (regV rs) _ (fun w h => h.2.1) Tryd.underlying48 rfl HRL.out) s14 ?_
  go_simp
  refine wpAnyH_take (i := 11) (v := .agg (regV rs).toArray) rfl (by kernel_rfl) (by kernel_rfl) (by kernel_rfl) (fun _ _ _ h => h) (yieldsIf_load_mid (by rfl) 48 (.tmp 13) rfl zb 0 rfl (regV rs) _ (fun w h => h.2.2.1) Tryd.underlying48 rfl HRL.out) s14 ?_
  go_simp
  refine wpAnyH_take (i := 12) (v := ?_) rfl (by kernel_rfl) (by kernel_rfl) (by kernel_rfl) (fun _ _ _ h => h) (Or.inl ⟨by rfl, ?_⟩) s14 ?_
  rotate_left
  · intro w hSw; first | (obtain ⟨s1, s2, s3, s4, s5, s6, s7, s8⟩ := hSw; go_simp; rfl) | (obtain ⟨s1, s2, s3, s4, s5, s6, s7⟩ := hSw; go_simp; rfl) | (obtain ⟨s1, s2, s3⟩ := hSw; go_simp; rfl) | (obtain ⟨s1, s2⟩ := hSw; go_simp; rfl) | (have s1 := hSw; go_simp; rfl)
  go_simp
  refine wpAnyH_take (i := 13) (v := ?_) rfl (by kernel_rfl) (by kernel_rfl) (by kernel_rfl) (fun _ _ _ h => h) (Or.inl ⟨by rfl, ?_⟩) s14 ?_
  rotate_left
  · intro w hSw; first | (obtain ⟨s1, s2, s3, s4, s5, s6, s7, s8⟩ := hSw; go_simp; rfl) | (obtain ⟨s1, s2, s3, s4, s5, s6, s7⟩ := hSw; go_simp; rfl) | (obtain ⟨s1, s2, s3⟩ := hSw; go_simp; rfl) | (obtain ⟨s1, s2⟩ := hSw; go_simp; rfl) | (have s1 := hSw; go_simp; rfl)
  go_simp
  refine wpAnyH_take (i := 14) (v := ?_) rfl (by kernel_rfl) (by kernel_rfl) (by kernel_rfl) (fun _ _ _ h => h) (Or.inl ⟨by rfl, ?_⟩) s14 ?_
  rotate_left
  · intro w hSw; first | (obtain ⟨s1, s2, s3, s4, s5, s6, s7, s8⟩ := hSw; go_simp; rfl) | (obtain ⟨s1, s2, s3, s4, s5, s6, s7⟩ := hSw; go_simp; rfl) | (obtain ⟨s1, s2, s3⟩ := hSw; go_simp; rfl) | (obtain ⟨s1, s2⟩ := hSw; go_simp; rfl) | (have s1 := hSw; go_simp; rfl)
  go_simp
  refine wpAnyH_take (i := 15) (v := ?_) rfl (by kernel_rfl) (by kernel_rfl) (by kernel_rfl) (fun _ _ _ h => h) (Or.inl ⟨by rfl, ?_⟩) s14 ?_
  rotate_left
  · intro w hSw; first | (obtain ⟨s1, s2, s3, s4, s5, s6, s7, s8⟩ := hSw; go_simp; rfl) | (obtain ⟨s1, s2, s3, s4, s5, s6, s7⟩ := hSw; go_simp; rfl) | (obtain ⟨s1, s2, s3⟩ := hSw; go_simp; rfl) | (obtain ⟨s1, s2⟩ := hSw; go_simp; rfl) | (have s1 := hSw; go_simp; rfl)
  go_simp
  refine wpAnyH_take (i := 16) (v := ?_) rfl (by kernel_rfl) (by kernel_rfl) (by kernel_rfl) (fun _ _ _ h => h) (Or.inl ⟨by rfl, ?_⟩) s14 ?_
  rotate_left
  · intro w hSw; first | (obtain ⟨s1, s2, s3, s4, s5, s6, s7, s8⟩ := hSw; go_simp; rfl) | (obtain ⟨s1, s2, s3, s4, s5, s6, s7⟩ := hSw; go_simp; rfl) | (obtain ⟨s1, s2, s3⟩ := hSw; go_simp; rfl) | (obtain ⟨s1, s2⟩ := hSw; go_simp; rfl) | (have s1 := hSw; go_simp; rfl)
  go_simp
  refine wpAnyH_take (i := 17) (v := ?_) rfl (by kernel_rfl) (by kernel_rfl) (by kernel_rfl) (fun _ _ _ h => h) (Or.inl ⟨by rfl, ?_⟩) s14 ?_
  rotate_left
  · intro w hSw; first | (obtain ⟨s1, s2, s3, s4, s5, s6, s7, s8⟩ := hSw; go_simp; rfl) | (obtain ⟨s1, s2, s3, s4, s5, s6, s7⟩ := hSw; go_simp; rfl) | (obtain ⟨s1, s2, s3⟩ := hSw; go_simp; rfl) | (obtain ⟨s1, s2⟩ := hSw; go_simp; rfl) | (have s1 := hSw; go_simp; rfl)
  go_simp
  refine wpAnyH_take (i := 18) (v := ?_) rfl (by kernel_rfl) (by kernel_rfl) (by kernel_rfl) (fun _ _ _ h => h) (Or.inl ⟨by rfl, ?_⟩) s14 ?_
  rotate_left
  · intro w hSw; first | (obtain ⟨s1, s2, s3, s4, s5, s6, s7, s8⟩ := hSw; go_simp; rfl) | (obtain ⟨s1, s2, s3, s4, s5, s6, s7⟩ := hSw; go_simp; rfl) | (obtain ⟨s1, s2, s3⟩ := hSw; go_simp; rfl) | (obtain ⟨s1, s2⟩ := hSw; go_simp; rfl) | (have s1 := hSw; go_simp; rfl)
  go_simp
  refine wpAnyH_take (i := 19) (v := ?_) rfl (by kernel_rfl) (by kernel_rfl) (by kernel_rfl) (fun _ _ _ h => h) (Or.inl ⟨by rfl, ?_⟩) s14 ?_
  rotate_left
  · intro w hSw; first | (obtain ⟨s1, s2, s3, s4, s5, s6, s7, s8⟩ := hSw; go_simp; rfl) | (obtain ⟨s1, s2, s3, s4, s5, s6, s7⟩ := hSw; go_simp; rfl) | (obtain ⟨s1, s2, s3⟩ := hSw; go_simp; rfl) | (obtain ⟨s1, s2⟩ := hSw; go_simp; rfl) | (have s1 := hSw; go_simp; rfl)
  go_simp
  refine wpAnyH_take (i := 20) (v := ?_) rfl (by kernel_rfl) (by kernel_rfl) (by kernel_rfl) (fun _ _ _ h => h) (Or.inl ⟨by rfl, ?_⟩) s14 ?_
  rotate_left
  · intro w hSw; first | (obtain ⟨s1, s2, s3, s4, s5, s6, s7, s8⟩ := hSw; go_simp; rfl) | (obtain ⟨s1, s2, s3, s4, s5, s6, s7⟩ := hSw; go_simp; rfl) | (obtain ⟨s1, s2, s3⟩ := hSw; go_simp; rfl) | (obtain ⟨s1, s2⟩ := hSw; go_simp; rfl) | (have s1 := hSw; go_simp; rfl)
  go_simp
  refine wpAnyH_take (i := 21) (v := ?_) rfl (by kernel_rfl) (by kernel_rfl) (by kernel_rfl) (fun _ _ _ h => h) (Or.inl ⟨by rfl, ?_⟩) s14 ?_
  rotate_left
  · intro w hSw; first | (obtain ⟨s1, s2, s3, s4, s5, s6, s7, s8⟩ := hSw; go_simp; rfl) | (obtain ⟨s1, s2, s3, s4, s5, s6, s7⟩ := hSw; go_simp; rfl) | (obtain ⟨s1, s2, s3⟩ := hSw; go_simp; rfl) | (obtain ⟨s1, s2⟩ := hSw; go_simp; rfl) | (have s1 := hSw; go_simp; rfl)
  go_simp
  refine wpAnyH_take (i := 22) (v := ?_) rfl (by kernel_rfl) (by kernel_rfl) (by kernel_rfl) (fun _ _ _ h => h) (Or.inl ⟨by rfl, ?_⟩) s14 ?_
  rotate_left
  · intro w hSw; first | (obtain ⟨s1, s2, s3, s4, s5, s6, s7, s8⟩ := hSw; go_simp; rfl) | (obtain ⟨s1, s2, s3, s4, s5, s6, s7⟩ := hSw; go_simp; rfl) | (obtain ⟨s1, s2, s3⟩ := hSw; go_simp; rfl) | (obtain ⟨s1, s2⟩ := hSw; go_simp; rfl) | (have s1 := hSw; go_simp; rfl)
  go_simp
  refine wpAnyH_take (i := 23) (v := ?_) rfl (by kernel_rfl) (by kernel_rfl) (by kernel_rfl) (fun _ _ _ h => h) (Or.inl ⟨by rfl, ?_⟩) s14 ?_
  rotate_left
  · intro w hSw; first | (obtain ⟨s1, s2, s3, s4, s5, s6, s7, s8⟩ := hSw; go_simp; rfl) | (obtain ⟨s1, s2, s3, s4, s5, s6, s7⟩ := hSw; go_simp; rfl) | (obtain ⟨s1, s2, s3⟩ := hSw; go_simp; rfl) | (obtain ⟨s1, s2⟩ := hSw; go_simp; rfl) | (have s1 := hSw; go_simp; rfl)
  go_simp
  refine wpAnyH_take (i := 24) (v := ?_) rfl (by kernel_rfl) (by kernel_rfl) (by kernel_rfl) (fun _ _ _ h => h) (Or.inl ⟨by rfl, ?_⟩) s14 ?_
  rotate_left
  · intro w hSw; first | (obtain ⟨s1, s2, s3, s4, s5, s6, s7, s8⟩ := hSw; go_simp; rfl) | (obtain ⟨s1, s2, s3, s4, s5, s6, s7⟩ := hSw; go_simp; rfl) | (obtain ⟨s1, s2, s3⟩ := hSw; go_simp; rfl) | (obtain ⟨s1, s2⟩ := hSw; go_simp; rfl) | (have s1 := hSw; go_simp; rfl)
  go_simp
  refine wpAnyH_take (i := 25) (v := ?_) rfl (by kernel_rfl) (by kernel_rfl) (by kernel_rfl) (fun _ _ _ h => h) (Or.inl ⟨by rfl, ?_⟩) s14 ?_
  rotate_left
  · intro w hSw; first | (obtain ⟨s1, s2, s3, s4, s5, s6, s7, s8⟩ := hSw; go_simp; rfl) | (obtain ⟨s1, s2, s3, s4, s5, s6, s7⟩ := hSw; go_simp; rfl) | (obtain ⟨s1, s2, s3⟩ := hSw; go_simp; rfl) | (obtain ⟨s1, s2⟩ := hSw; go_simp; rfl) | (have s1 := hSw; go_simp; rfl)
  go_simp
  refine wpAnyH_take (i := 26) (v := ?_) rfl (by kernel_rfl) (by kernel_rfl) (by kernel_rfl) (fun _ _ _ h => h) (Or.inl ⟨by rfl, ?_⟩) s14 ?_
  rotate_left
  · intro w hSw; first | (obtain ⟨s1, s2, s3, s4, s5, s6, s7, s8⟩ := hSw; go_simp; rfl) | (obtain ⟨s1, s2, s3, s4, s5, s6, s7⟩ := hSw; go_simp; rfl) | (obtain ⟨s1, s2, s3⟩ := hSw; go_simp; rfl) | (obtain ⟨s1, s2⟩ := hSw; go_simp; rfl) | (have s1 := hSw; go_simp; rfl)
  go_simp
  refine heldOne (i := 27) (by kernel_rfl) rfl (by rfl) (fun K hK => ?_)
  go_simp
  obtain ⟨W15, hW15⟩ : ∃ W15, w14.alloc (.cells #[.int .i64 4, .int .i64 5] 3) = W15 := ⟨_, rfl⟩
  have hn15 : New w14 W15 := by rw [← hW15]; exact (Fr.refl _ _).alloc _
  have ha : Arr W15 w14.heap.size [.int .i64 4, .int .i64 5] := by rw [← hW15]; exact Arr.new _ _ _
  obtain ⟨yb2, hyb⟩ : ∃ yb, w14.heap.size = yb := ⟨_, rfl⟩
  rw [hyb] at ha ⊢
  rw [hW15]
  have hy : IntRow W15 (some ⟨yb2, 0, none⟩) [4, 5] := fun j x hj => by
    have hjl : j < 2 := (List.getElem?_eq_some_iff.1 hj).1
    refine ⟨yb2, rfl, ha.lt, ?_⟩
    rcases (show j = 0 ∨ j = 1 by omega) with rfl | rfl <;> cases hj
    · exact ha.cell 0 _ rfl
    · exact ha.cell 1 _ rfl
  have HX15 := Lib.hid (HX.out.trans hn15)
  have s15 := HT.out W15 HX15.out
  have HI15 := Lib.hid (ints_any [4, 5] a1 (some ⟨yb2, 0, none⟩) c1 2 W15 (HROW.out.keep HX15.out) hy (by decide))
  refine hK.out _ _ s15 ?_
  clear hK K s14 hW15 hn15 ha hyb hy
  refine heldOne (i := 28) (by kernel_rfl) rfl (by rfl) (fun K hK => ?_)
  go_simp
  refine HI15.out.mono ?_
  rintro e w16 ⟨rfl, hn16⟩
  have HX16 := Lib.hid (HX15.out.trans hn16)
  have s16 := HT.out w16 HX16.out
  refine hK.out _ _ s16 ?_
  clear hK K s15 hn16
  refine wpAnyH_take (i := 29) (v := ?_) rfl (by kernel_rfl) (by kernel_rfl) (by kernel_rfl) (fun _ _ _ h => h) (Or.inl ⟨by rfl, ?_⟩) s16 ?_
  rotate_left
  · intro w hSw; first | (obtain ⟨s1, s2, s3, s4, s5, s6, s7, s8⟩ := hSw; go_simp; rfl) | (obtain ⟨s1, s2, s3, s4, s5, s6, s7⟩ := hSw; go_simp; rfl) | (obtain ⟨s1, s2, s3⟩ := hSw; go_simp; rfl) | (obtain ⟨s1, s2⟩ := hSw; go_simp; rfl) | (have s1 := hSw; go_simp; rfl)
  go_simp
  refine wpAnyH_take (i := 30) (v := ?_) rfl (by kernel_rfl) (by kernel_rfl) (by kernel_rfl) (fun _ _ _ h => h) (Or.inl ⟨by rfl, ?_⟩) s16 ?_
  rotate_left
  · intro w hSw; first | (obtain ⟨s1, s2, s3, s4, s5, s6, s7, s8⟩ := hSw; go_simp; rfl) | (obtain ⟨s1, s2, s3, s4, s5, s6, s7⟩ := hSw; go_simp; rfl) | (obtain ⟨s1, s2, s3⟩ := hSw; go_simp; rfl) | (obtain ⟨s1, s2⟩ := hSw; go_simp; rfl) | (have s1 := hSw; go_simp; rfl)
  go_simp
  refine wpAnyH_take (i := 31) (v := ?_) rfl (by kernel_rfl) (by kernel_rfl) (by kernel_rfl) (fun _ _ _ h => h) (Or.inl ⟨by rfl, ?_⟩) s16 ?_
  rotate_left
  · intro w hSw; first | (obtain ⟨s1, s2, s3, s4, s5, s6, s7, s8⟩ := hSw; go_simp; rfl) | (obtain ⟨s1, s2, s3, s4, s5, s6, s7⟩ := hSw; go_simp; rfl) | (obtain ⟨s1, s2, s3⟩ := hSw; go_simp; rfl) | (obtain ⟨s1, s2⟩ := hSw; go_simp; rfl) | (have s1 := hSw; go_simp; rfl)
  go_simp
  refine wpAnyH_take (i := 32) (v := ?_) rfl (by kernel_rfl) (by kernel_rfl) (by kernel_rfl) (fun _ _ _ h => h) (Or.inl ⟨by rfl, ?_⟩) s16 ?_
  rotate_left
  · intro w hSw; first | (obtain ⟨s1, s2, s3, s4, s5, s6, s7, s8⟩ := hSw; go_simp; rfl) | (obtain ⟨s1, s2, s3, s4, s5, s6, s7⟩ := hSw; go_simp; rfl) | (obtain ⟨s1, s2, s3⟩ := hSw; go_simp; rfl) | (obtain ⟨s1, s2⟩ := hSw; go_simp; rfl) | (have s1 := hSw; go_simp; rfl)
  go_simp
  refine heldOne (i := 33) (by kernel_rfl) rfl (by rfl) (fun K hK => ?_)
  go_simp
  refine (vcount_any b cb wb _ bothWs (cnt bothWs) 0 _ (HM12.out.keep HX16.out id id id)).mono ?_
  rintro e w17 ⟨rfl, rfl⟩
  refine hK.out _ _ s16 ?_
  clear hK K
  refine wpAnyH_take (i := 34) (v := ?_) rfl (by kernel_rfl) (by kernel_rfl) (by kernel_rfl) (fun _ _ _ h => h) (Or.inl ⟨by rfl, ?_⟩) s16 ?_
  rotate_left
  · intro w hSw; first | (obtain ⟨s1, s2, s3, s4, s5, s6, s7, s8⟩ := hSw; go_simp; rfl) | (obtain ⟨s1, s2, s3, s4, s5, s6, s7⟩ := hSw; go_simp; rfl) | (obtain ⟨s1, s2, s3⟩ := hSw; go_simp; rfl) | (obtain ⟨s1, s2⟩ := hSw; go_simp; rfl) | (have s1 := hSw; go_simp; rfl)
  go_simp
  refine wpAnyH_take (i := 35) (v := ?_) rfl (by kernel_rfl) (by kernel_rfl) (by kernel_rfl) (fun _ _ _ h => h) (Or.inl ⟨by rfl, ?_⟩) s16 ?_
  rotate_left
  · intro w hSw; first | (obtain ⟨s1, s2, s3, s4, s5, s6, s7, s8⟩ := hSw; go_simp; rfl) | (obtain ⟨s1, s2, s3, s4, s5, s6, s7⟩ := hSw; go_simp; rfl) | (obtain ⟨s1, s2, s3⟩ := hSw; go_simp; rfl) | (obtain ⟨s1, s2⟩ := hSw; go_simp; rfl) | (have s1 := hSw; go_simp; rfl)
  go_simp
  refine wpAnyH_done (by kernel_rfl) ?_ _
  clear s16 heq HT t3
  have HN17 := Lib.hid (HN12.out.trans HX16.out)
  go_wp2_with fail
  refine (step_nil _ _ _ _ _).mono ?_
  rintro e w18 ⟨rfl, hn18⟩
  have HN18 := Lib.hid (HN17.out.trans hn18)
  clear hn18
  go_wp2_with (go_at_call 6; refine (awake_any _).mono ?_; rintro e w19 ⟨rfl, hn19⟩)
  go_ret
  exact ⟨rfl, HN18.out.trans hn19⟩

end Go.Proofs.YtngpcalgjaglmaaDoor
