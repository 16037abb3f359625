/- Any program of a client's: the statement's walk. -/
import Derived.Test.YtkpliapmllabaaaDoorCodeG
import Derived.Test.YtkpliapmllabaaaDoorDocsB
import Derived.Test.YtkpliapmllabaaaDoorDoorP
namespace Go.Proofs.YtkpliapmllabaaaDoor
open Go.RowKit

set_option maxRecDepth 100000 in
set_option maxHeartbeats 1000000 in
theorem copy_own (rs : List (List Int)) (ao : Option Addr) (ca : Nat) (w : World) (hfit : ∀ r ∈ rs, RecOk insKs r) (ha : Recs insKs w ao rs) (hm : rs.length * 56 ≤ 140737488355328) :
    Calls Tryd.prog 11 #[.slice ao rs.length ca] w fun e w' => ∃ v, e = .returned v ∧ w'.ownsRow w.heap.size 42 7 v rs.length (rs.flatMap insCells) ∧ New w w' := by
  obtain ⟨i0, hi, hz0, hz1, hz2⟩ := info_parts insInfo
  have hone : ∀ u ∈ rs.flatMap insCells, u.oneCell' = true := by
    intro u hu
    obtain ⟨r, _, hr⟩ := List.mem_flatMap.1 hu
    obtain ⟨j, _, rfl⟩ := List.mem_map.1 hr
    rfl
  have hlen := len_flatMap insCells 7 insCells_len rs
  obtain ⟨xs, hxs⟩ : ∃ xs, rs.flatMap insCells = xs := ⟨_, rfl⟩
  obtain ⟨L, hL⟩ : ∃ L, rs.length = L := ⟨_, rfl⟩
  cases ao with
  | none =>
    have h0 : rs = [] := by
      cases rs with
      | nil => rfl
      | cons r l => obtain ⟨b, off, e, _⟩ := ha 0 r rfl; cases e
    subst h0
    clear hone hlen hxs hL ha hfit
    go_enter Tryd.func11, Tryd.ntmps11
    go_wp2
    go_ret
    exact ⟨_, rfl, World.ownsRow_nil _ _ _ _, Fr.refl _ _⟩
  | some ad =>
    have hnews := recs_add ha hfit
    rw [hxs] at hnews hone hlen ⊢
    rw [hL] at hlen hm ⊢
    have HN := Lib.hid hnews
    have HO := Lib.hid hone
    have HLEN := Lib.hid hlen
    clear hnews hone hlen hxs hL ha hfit
    go_enter Tryd.func11, Tryd.ntmps11
    go_wp2_with (at_builtin; refine wpList_append_own _ rfl (.const (.slice none 0 0)) (.tmp 3) 22 rfl w.heap.size 42 i0 _ 7 56 Tryd.underlying22 hi hz0 hz1 hz2 rfl (by decide) _ 0 [] rfl (World.ownsRow_nil _ _ _ _) ad L ca xs rfl HLEN.out HN.out HO.out (by unfold maxLen; omega) (by omega) (Nat.le_refl _) ?_; intro v' w1 hown' hgrow hnil; rw [Nat.zero_add, List.nil_append] at hown'; have HR := Lib.hid hown'; have HG := Lib.hid ((Fr.refl (fun _ => False) w).grown hgrow (fun k h => by cases h)); clear hown' hgrow hnil)
    go_ret
    exact ⟨_, rfl, HR.out, HG.out⟩
theorem progSize : (Tryd.prog.info? 49).map (·.size) = some 4 := by kernel_rfl

set_option maxRecDepth 100000 in
set_option maxHeartbeats 2000000 in
theorem copyProg_any (rs : List (List Int)) (ao : Option Addr) (ca : Nat) (E W N : Int) (w : World) (hfit : ∀ r ∈ rs, RecOk insKs r) (hc : Recs insKs w ao rs) (hm : rs.length * 56 ≤ 140737488355328) :
    Calls Tryd.prog 22 #[.agg #[.slice ao rs.length ca, .int .i64 E, .int .i64 W, .int .i64 N]] w fun e w' => ∃ bo cb, e = .returned (.agg #[.slice bo rs.length cb, .int .i64 E, .int .i64 W, .int .i64 N]) ∧ Recs insKs w' bo rs ∧ New w w' := by
  have HROW := Lib.hid (fun (w' : World) (v : Value) (b : Nat) (h : w'.ownsRow b 42 7 v rs.length (rs.flatMap insCells)) => recs_own h)
  have HC := Lib.hid (fun (w' : World) (f : New w w') => copy_own rs ao ca w' hfit (hc.keep f) hm)
  clear hfit hc hm
  generalize rs.length = L at HC HROW ⊢
  go_enter Tryd.func22, Tryd.ntmps22
  go_wp2_with fail
  obtain ⟨W0, hW0⟩ : ∃ W0, (w.alloc (.cells #[.slice ao L ca, .int .i64 E, .int .i64 W, .int .i64 N] 49)).alloc (.cells #[.slice none 0 0, .int .i64 0, .int .i64 0, .int .i64 0] 49) = W0 := ⟨_, rfl⟩
  have hn0 : New w W0 := by rw [← hW0]; exact ((Fr.refl _ _).alloc _).alloc _
  have hx : W0.heap[w.heap.size]? = some (.cells #[.slice ao L ca, .int .i64 E, .int .i64 W, .int .i64 N] 49 (0, 0)) := by rw [← hW0, block_alloc (by simp)]; exact block_alloc_new _ _
  have hy : W0.heap[w.heap.size + 1]? = some (.cells #[.slice none 0 0, .int .i64 0, .int .i64 0, .int .i64 0] 49 (0, 0)) := by rw [← hW0]; exact block_alloc_new1 _ _ _
  rw [hW0]
  refine (HC.out W0 hn0).mono ?_
  rintro e w1 ⟨v, rfl, hr, hn1⟩
  obtain ⟨bo, cb, rfl, _⟩ := owned_form hr
  have hx1 : w1.heap[w.heap.size]? = some (.cells #[.slice ao L ca, .int .i64 E, .int .i64 W, .int .i64 N] 49 (0, 0)) := by rw [hn1.block _ (lt_of_block hx) id]; exact hx
  have hy1 : w1.heap[w.heap.size + 1]? = some (.cells #[.slice none 0 0, .int .i64 0, .int .i64 0, .int .i64 0] 49 (0, 0)) := by rw [hn1.block _ (lt_of_block hy) id]; exact hy
  have HR := Lib.hid hr
  have HX1 := Lib.hid hx1
  have HY1 := Lib.hid hy1
  have HN1 := Lib.hid (hn0.trans hn1)
  have x0 := cell_of_block hx1 0
  have x1 := cell_of_block hx1 1
  have x2 := cell_of_block hx1 2
  have x3 := cell_of_block hx1 3
  have xf := free_of_block hx1 0
  have y0 := cell_of_block hy1 0
  have y1 := cell_of_block hy1 1
  have y2 := cell_of_block hy1 2
  have y3 := cell_of_block hy1 3
  have yf := free_of_block hy1
  obtain ⟨xb, hxb⟩ : ∃ xb, w.heap.size = xb := ⟨_, rfl⟩
  rw [hxb] at HX1 HY1 x0 x1 x2 x3 xf y0 y1 y2 y3 yf ⊢
  have hxw : w.heap.size ≤ xb := by omega
  clear hn0 hx hy hW0 hx1 hy1 hr hn1 HC hxb
  go_wp2_with fail
  have hfin : ∀ W', W' = ((((w1.setCell ⟨xb, 0, none⟩ (.slice bo L cb)).setCell ⟨xb + 1, 0, none⟩ (.slice bo L cb)).setCell ⟨xb + 1, 1, none⟩ (.int .i64 E)).setCell ⟨xb + 1, 2, none⟩ (.int .i64 W)).setCell ⟨xb + 1, 3, none⟩ (.int .i64 N) →
      W'.heap[xb + 1]? = some (.cells #[.slice bo L cb, .int .i64 E, .int .i64 W, .int .i64 N] 49 (0, 0)) ∧ New w W' := by
    rintro W' rfl
    have h0 : (w1.setCell ⟨xb, 0, none⟩ (.slice bo L cb)).heap[xb + 1]? = _ := (block_setCell_ne (by omega) _).trans HY1.out
    refine ⟨block_setCell (block_setCell (block_setCell (block_setCell h0 _) _) _) _, ?_⟩
    exact HN1.out.then (((((Fr.setCell (S := fun i => i = xb ∨ i = xb + 1) (Fr.refl _ _) (fun _ => .inl rfl) _).setCell (fun _ => .inr rfl) _).setCell (fun _ => .inr rfl) _).setCell (fun _ => .inr rfl) _).setCell (fun _ => .inr rfl) _) (fun i hi e => by omega)
  have hnr : ∀ W', W' = ((((w1.setCell ⟨xb, 0, none⟩ (.slice bo L cb)).setCell ⟨xb + 1, 0, none⟩ (.slice bo L cb)).setCell ⟨xb + 1, 1, none⟩ (.int .i64 E)).setCell ⟨xb + 1, 2, none⟩ (.int .i64 W)).setCell ⟨xb + 1, 3, none⟩ (.int .i64 N) → Recs insKs W' bo rs := by
    rintro W' rfl
    have hf : Fr (fun i => i = xb ∨ i = xb + 1) w1 (((((w1.setCell ⟨xb, 0, none⟩ (.slice bo L cb)).setCell ⟨xb + 1, 0, none⟩ (.slice bo L cb)).setCell ⟨xb + 1, 1, none⟩ (.int .i64 E)).setCell ⟨xb + 1, 2, none⟩ (.int .i64 W)).setCell ⟨xb + 1, 3, none⟩ (.int .i64 N)) :=
      ((((Fr.setCell (S := fun i => i = xb ∨ i = xb + 1) (Fr.refl _ _) (fun _ => .inl rfl) _).setCell (fun _ => .inr rfl) _).setCell (fun _ => .inr rfl) _).setCell (fun _ => .inr rfl) _).setCell (fun _ => .inr rfl) _
    have hk := own_kept HR.out hf (fun k hk e => by
      rcases e with e | e
      · exact own_ne HR.out HX1.out (by decide) k hk e
      · exact own_ne HR.out HY1.out (by decide) k hk e)
    obtain ⟨bo', cb', e, h⟩ := HROW.out _ _ _ hk
    obtain ⟨rfl, _⟩ : bo = bo' ∧ cb = cb' := by simpa using e
    exact h
  refine bodyPost_ret (ret_cell1 rfl _ _ (xb + 1) _ _ _ _ rfl (hfin _ rfl).1 Tryd.underlying49 rfl progSize) rfl ?_
  exact ⟨bo, cb, rfl, hnr _ rfl, (hfin _ rfl).2⟩

set_option maxRecDepth 100000 in
set_option maxHeartbeats 8000000 in
theorem clients_walk (rs : List (List Int)) (ao : Option Addr) (ca : Nat) (E W N : Int) (w : World) (hg : Laid w) (hfit : ∀ r ∈ rs, RecOk insKs r) (hc : Recs insKs w ao rs) (hm : rs.length * 56 ≤ 140737488355328)
    (hE : -9223372036854775808 ≤ E ∧ E ≤ 9223372036854775807) (hW : -9223372036854775808 ≤ W ∧ W ≤ 9223372036854775807) (hN : -9223372036854775808 ≤ N ∧ N ≤ 9223372036854775807) :
    Calls Tryd.prog 8 #[.agg #[.slice ao rs.length ca, .int .i64 E, .int .i64 W, .int .i64 N]] w fun e w' => e = .returned (.bool true) ∧ New w w' := by
  have HCP := Lib.hid (fun (w' : World) (f : New w w') => copyProg_any rs ao ca E W N w' hfit (hc.keep f) hm)
  have HCL := Lib.hid (fun (bo : Option Addr) (cb : Nat) (w' : World) (f : New w w') (hb : Recs insKs w' bo rs) => client_any rs bo cb E W N w' (hg.keep f id) hfit hb (by omega) hE hW hN)
  have HRC := Lib.hid (fun (w' : World) (f : New w w') => rclient_any rs ao ca E W N w' hfit (hc.keep f) (by omega) hE hW hN)
  have HEQ := Lib.hid (fun (bo : Option Addr) (cb : Nat) (w' : World) (f : New w w') (hb : Recs insKs w' bo rs) => codeEq_any rs ao bo ca cb w' hfit (hc.keep f) hb (by omega))
  have hfew := few_client rs E W N
  generalize clientL rs E W N = oe at HCL HRC hfew
  have HG := Lib.hid hg
  clear hfit hc hm hg
  generalize rs.length = L at HCP HCL HRC HEQ ⊢
  go_enter Tryd.func8, Tryd.ntmps8
  go_wp2_with fail
  obtain ⟨W0, hW0⟩ : ∃ W0, w.alloc (.cells #[.slice ao L ca, .int .i64 E, .int .i64 W, .int .i64 N] 49) = W0 := ⟨_, rfl⟩
  have hn0 : New w W0 := by rw [← hW0]; exact (Fr.refl _ _).alloc _
  have hx0 : Arr W0 w.heap.size [.slice ao L ca, .int .i64 E, .int .i64 W, .int .i64 N] := by rw [← hW0]; exact Arr.new _ _ _
  rw [hW0]
  obtain ⟨xb, hxb⟩ : ∃ xb, w.heap.size = xb := ⟨_, rfl⟩
  rw [hxb] at hx0 ⊢
  clear hW0 hxb
  refine (HCP.out W0 hn0).mono ?_
  rintro e w1 ⟨bo, cb, rfl, hr, hn1⟩
  have HR1 := Lib.hid hr
  have HN1 := Lib.hid (hn0.trans hn1)
  have HX1 := Lib.hid (hx0.keep hn1 id)
  clear hn0 hx0 hr hn1 HCP
  go_wp2_with fail
  obtain ⟨W2, hW2⟩ : ∃ W2, (w1.alloc (.cells #[.slice bo L cb, .int .i64 E, .int .i64 W, .int .i64 N] 49)).drew = W2 := ⟨_, rfl⟩
  have hn2 : New w1 W2 := by rw [← hW2]; exact ((Fr.refl _ _).alloc _).drew
  have hy2 : Arr W2 w1.heap.size [.slice bo L cb, .int .i64 E, .int .i64 W, .int .i64 N] := by rw [← hW2]; exact (Arr.new _ _ _).drew
  obtain ⟨qb, hqb⟩ : ∃ qb, w1.heap.size = qb := ⟨_, rfl⟩
  rw [hqb] at hy2 ⊢
  refine heldStart (fun W' => W'.cell? ⟨xb, 0, none⟩ = some (.slice ao L ca) ∧ W'.cell? ⟨xb, 1, none⟩ = some (.int .i64 E) ∧ W'.cell? ⟨xb, 2, none⟩ = some (.int .i64 W) ∧ W'.cell? ⟨xb, 3, none⟩ = some (.int .i64 N) ∧ W'.cell? ⟨qb, 0, none⟩ = some (.slice bo L cb) ∧ W'.cell? ⟨qb, 1, none⟩ = some (.int .i64 E) ∧ W'.cell? ⟨qb, 2, none⟩ = some (.int .i64 W) ∧ W'.cell? ⟨qb, 3, none⟩ = some (.int .i64 N)) (by kernel_rfl) ?_
  rw [hW2]
  have HX2 := Lib.hid (HX1.out.keep hn2 id)
  have HY2 := Lib.hid hy2
  have HN2 := Lib.hid (HN1.out.trans hn2)
  have HR2 := Lib.hid (HR1.out.keep hn2)
  have HS := Lib.hid (fun (w' : World) (f : New W2 w') => show w'.cell? ⟨xb, 0, none⟩ = some (.slice ao L ca) ∧ w'.cell? ⟨xb, 1, none⟩ = some (.int .i64 E) ∧ w'.cell? ⟨xb, 2, none⟩ = some (.int .i64 W) ∧ w'.cell? ⟨xb, 3, none⟩ = some (.int .i64 N) ∧ w'.cell? ⟨qb, 0, none⟩ = some (.slice bo L cb) ∧ w'.cell? ⟨qb, 1, none⟩ = some (.int .i64 E) ∧ w'.cell? ⟨qb, 2, none⟩ = some (.int .i64 W) ∧ w'.cell? ⟨qb, 3, none⟩ = some (.int .i64 N) from
    ⟨(HX2.out.keep f id).cell 0 _ rfl, (HX2.out.keep f id).cell 1 _ rfl, (HX2.out.keep f id).cell 2 _ rfl, (HX2.out.keep f id).cell 3 _ rfl, (HY2.out.keep f id).cell 0 _ rfl, (HY2.out.keep f id).cell 1 _ rfl, (HY2.out.keep f id).cell 2 _ rfl, (HY2.out.keep f id).cell 3 _ rfl⟩)
  clear hn2 hy2 hW2 hqb HX1 HN1 HR1
  have s0 := HS.out W2 (Fr.refl _ _)
  refine wpAnyH_take (i := 0) (v := ?_) rfl (by kernel_rfl) (by kernel_rfl) (by kernel_rfl) (fun _ _ _ h => h) (Or.inl ⟨by rfl, ?_⟩) s0 ?_
  rotate_left
  · intro w hSw; first | (obtain ⟨s1, s2, s3, s4, s5, s6, s7, s8⟩ := hSw; go_simp; rfl) | (obtain ⟨s1, s2, s3, s4, s5, s6, s7⟩ := hSw; go_simp; rfl) | (obtain ⟨s1, s2, s3⟩ := hSw; go_simp; rfl) | (obtain ⟨s1, s2⟩ := hSw; go_simp; rfl) | (have s1 := hSw; go_simp; rfl)
  go_simp
  refine wpAnyH_take (i := 2) (v := ?_) rfl (by kernel_rfl) (by kernel_rfl) (by kernel_rfl) (fun _ _ _ h => h) (Or.inl ⟨by rfl, ?_⟩) s0 ?_
  rotate_left
  · intro w hSw; first | (obtain ⟨s1, s2, s3, s4, s5, s6, s7, s8⟩ := hSw; go_simp; rfl) | (obtain ⟨s1, s2, s3, s4, s5, s6, s7⟩ := hSw; go_simp; rfl) | (obtain ⟨s1, s2, s3⟩ := hSw; go_simp; rfl) | (obtain ⟨s1, s2⟩ := hSw; go_simp; rfl) | (have s1 := hSw; go_simp; rfl)
  go_simp
  refine heldOne (i := 1) (by kernel_rfl) rfl (by rfl) (fun K hK => ?_)
  go_simp
  refine (HCL.out bo cb W2 HN2.out HR2.out).mono ?_
  rintro e w3 ⟨v, rfl, hv, hn3⟩
  have HV3 := Lib.hid hv
  have N3 := Lib.hid hn3
  refine hK.out _ _ (HS.out _ N3.out) ?_
  clear hK K hv hn3 s0 HCL
  refine heldOne (i := 3) (by kernel_rfl) rfl (by rfl) (fun K hK => ?_)
  go_simp
  refine (HRC.out w3 (HN2.out.trans N3.out)).mono ?_
  rintro e w4 ⟨f, rfl, hf, hn4⟩
  have N4 := Lib.hid (N3.out.trans hn4)
  have HSM := Lib.hid (same_tells v f oe w4 (HG.out.keep (HN2.out.trans N4.out) id) (HV3.out.new hn4) hf hfew)
  refine hK.out _ _ (HS.out _ N4.out) ?_
  clear hK K hf hn4 HV3 HRC
  refine heldOne (i := 4) (by kernel_rfl) rfl (by rfl) (fun K hK => ?_)
  go_simp
  refine HSM.out.mono ?_
  rintro e w5 ⟨rfl, hn5⟩
  have N5 := Lib.hid (N4.out.trans hn5)
  refine hK.out _ _ (HS.out _ N5.out) ?_
  have s5 := HS.out _ N5.out
  clear hK K hn5 HSM
  refine wpAnyH_take (i := 5) (v := ?_) rfl (by kernel_rfl) (by kernel_rfl) (by kernel_rfl) (fun _ _ _ h => h) (Or.inl ⟨by rfl, ?_⟩) s5 ?_
  rotate_left
  · intro w hSw; first | (obtain ⟨s1, s2, s3, s4, s5, s6, s7, s8⟩ := hSw; go_simp; rfl) | (obtain ⟨s1, s2, s3, s4, s5, s6, s7⟩ := hSw; go_simp; rfl) | (obtain ⟨s1, s2, s3⟩ := hSw; go_simp; rfl) | (obtain ⟨s1, s2⟩ := hSw; go_simp; rfl) | (have s1 := hSw; go_simp; rfl)
  go_simp
  refine wpAnyH_take (i := 6) (v := ?_) rfl (by kernel_rfl) (by kernel_rfl) (by kernel_rfl) (fun _ _ _ h => h) (Or.inl ⟨by rfl, ?_⟩) s5 ?_
  rotate_left
  · intro w hSw; first | (obtain ⟨s1, s2, s3, s4, s5, s6, s7, s8⟩ := hSw; go_simp; rfl) | (obtain ⟨s1, s2, s3, s4, s5, s6, s7⟩ := hSw; go_simp; rfl) | (obtain ⟨s1, s2, s3⟩ := hSw; go_simp; rfl) | (obtain ⟨s1, s2⟩ := hSw; go_simp; rfl) | (have s1 := hSw; go_simp; rfl)
  go_simp
  refine wpAnyH_take (i := 7) (v := ?_) rfl (by kernel_rfl) (by kernel_rfl) (by kernel_rfl) (fun _ _ _ h => h) (Or.inl ⟨by rfl, ?_⟩) s5 ?_
  rotate_left
  · intro w hSw; first | (obtain ⟨s1, s2, s3, s4, s5, s6, s7, s8⟩ := hSw; go_simp; rfl) | (obtain ⟨s1, s2, s3, s4, s5, s6, s7⟩ := hSw; go_simp; rfl) | (obtain ⟨s1, s2, s3⟩ := hSw; go_simp; rfl) | (obtain ⟨s1, s2⟩ := hSw; go_simp; rfl) | (have s1 := hSw; go_simp; rfl)
  go_simp
  refine wpAnyH_take (i := 8) (v := ?_) rfl (by kernel_rfl) (by kernel_rfl) (by kernel_rfl) (fun _ _ _ h => h) (Or.inl ⟨by rfl, ?_⟩) s5 ?_
  rotate_left
  · intro w hSw; first | (obtain ⟨s1, s2, s3, s4, s5, s6, s7, s8⟩ := hSw; go_simp; rfl) | (obtain ⟨s1, s2, s3, s4, s5, s6, s7⟩ := hSw; go_simp; rfl) | (obtain ⟨s1, s2, s3⟩ := hSw; go_simp; rfl) | (obtain ⟨s1, s2⟩ := hSw; go_simp; rfl) | (have s1 := hSw; go_simp; rfl)
  go_simp
  refine wpAnyH_take (i := 9) (v := ?_) rfl (by kernel_rfl) (by kernel_rfl) (by kernel_rfl) (fun _ _ _ h => h) (Or.inl ⟨by rfl, ?_⟩) s5 ?_
  rotate_left
  · intro w hSw; first | (obtain ⟨s1, s2, s3, s4, s5, s6, s7, s8⟩ := hSw; go_simp; rfl) | (obtain ⟨s1, s2, s3, s4, s5, s6, s7⟩ := hSw; go_simp; rfl) | (obtain ⟨s1, s2, s3⟩ := hSw; go_simp; rfl) | (obtain ⟨s1, s2⟩ := hSw; go_simp; rfl) | (have s1 := hSw; go_simp; rfl)
  go_simp
  refine heldOne (i := 10) (by kernel_rfl) rfl (by rfl) (fun K hK => ?_)
  go_simp
  refine (HEQ.out bo cb w5 (HN2.out.trans N5.out) (HR2.out.keep N5.out)).mono ?_
  rintro e w6 ⟨rfl, hn6⟩
  have N6 := Lib.hid (N5.out.trans hn6)
  refine hK.out _ _ (HS.out _ N6.out) ?_
  have s6 := HS.out _ N6.out
  clear hK K hn6 s5 HEQ
  refine wpAnyH_take (i := 11) (v := ?_) rfl (by kernel_rfl) (by kernel_rfl) (by kernel_rfl) (fun _ _ _ h => h) (Or.inl ⟨by rfl, ?_⟩) s6 ?_
  rotate_left
  · intro w hSw; first | (obtain ⟨s1, s2, s3, s4, s5, s6, s7, s8⟩ := hSw; go_simp; rfl) | (obtain ⟨s1, s2, s3, s4, s5, s6, s7⟩ := hSw; go_simp; rfl) | (obtain ⟨s1, s2, s3⟩ := hSw; go_simp; rfl) | (obtain ⟨s1, s2⟩ := hSw; go_simp; rfl) | (have s1 := hSw; go_simp; rfl)
  go_simp
  refine wpAnyH_take (i := 12) (v := ?_) rfl (by kernel_rfl) (by kernel_rfl) (by kernel_rfl) (fun _ _ _ h => h) (Or.inl ⟨by rfl, ?_⟩) s6 ?_
  rotate_left
  · intro w hSw; first | (obtain ⟨s1, s2, s3, s4, s5, s6, s7, s8⟩ := hSw; go_simp; rfl) | (obtain ⟨s1, s2, s3, s4, s5, s6, s7⟩ := hSw; go_simp; rfl) | (obtain ⟨s1, s2, s3⟩ := hSw; go_simp; rfl) | (obtain ⟨s1, s2⟩ := hSw; go_simp; rfl) | (have s1 := hSw; go_simp; rfl)
  go_simp
  refine heldOne (i := 13) (by kernel_rfl) rfl (by rfl) (fun K hK => ?_)
  go_simp
  refine (awake_any w6 (HG.out.keep (HN2.out.trans N6.out) id)).mono ?_
  rintro e w7 ⟨rfl, hn7⟩
  have N7 := Lib.hid (N6.out.trans hn7)
  refine hK.out _ _ (HS.out _ N7.out) ?_
  have s7 := HS.out _ N7.out
  clear hK K hn7 s6
  refine wpAnyH_take (i := 14) (v := ?_) rfl (by kernel_rfl) (by kernel_rfl) (by kernel_rfl) (fun _ _ _ h => h) (Or.inl ⟨by rfl, ?_⟩) s7 ?_
  rotate_left
  · intro w hSw; first | (obtain ⟨s1, s2, s3, s4, s5, s6, s7, s8⟩ := hSw; go_simp; rfl) | (obtain ⟨s1, s2, s3, s4, s5, s6, s7⟩ := hSw; go_simp; rfl) | (obtain ⟨s1, s2, s3⟩ := hSw; go_simp; rfl) | (obtain ⟨s1, s2⟩ := hSw; go_simp; rfl) | (have s1 := hSw; go_simp; rfl)
  go_simp
  refine wpAnyH_take (i := 15) (v := ?_) rfl (by kernel_rfl) (by kernel_rfl) (by kernel_rfl) (fun _ _ _ h => h) (Or.inl ⟨by rfl, ?_⟩) s7 ?_
  rotate_left
  · intro w hSw; first | (obtain ⟨s1, s2, s3, s4, s5, s6, s7, s8⟩ := hSw; go_simp; rfl) | (obtain ⟨s1, s2, s3, s4, s5, s6, s7⟩ := hSw; go_simp; rfl) | (obtain ⟨s1, s2, s3⟩ := hSw; go_simp; rfl) | (obtain ⟨s1, s2⟩ := hSw; go_simp; rfl) | (have s1 := hSw; go_simp; rfl)
  go_simp
  refine wpAnyH_done (by kernel_rfl) ?_ _
  clear s7
  go_wp2
  go_ret
  exact ⟨rfl, HN2.out.trans N7.out⟩

end Go.Proofs.YtkpliapmllabaaaDoor
