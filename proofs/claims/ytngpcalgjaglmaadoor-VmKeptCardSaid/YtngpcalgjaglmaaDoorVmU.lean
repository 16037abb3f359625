/- The document's step: accesses of cells. -/
import Derived.Test.YtngpcalgjaglmaaDoorVmO
import Derived.Test.YtngpcalgjaglmaaDoorMemM
namespace Go.Proofs.YtngpcalgjaglmaaDoor
open Go.RowKit
theorem rs_set_self {rs : List Nat} (a : Nat) : rs.set a (rs.getD a 0) = rs := by
  apply List.ext_getElem?
  intro j
  by_cases e : a = j
  · subst e
    by_cases h : a < rs.length
    · rw [List.getElem?_set_self h, List.getD_eq_getElem?_getD, List.getElem?_eq_getElem h]; rfl
    · rw [List.getElem?_eq_none (by simpa using h), List.getElem?_eq_none (by simpa using h)]
  · rw [List.getElem?_set_ne e]
/-- What comes of a step of the document's that accesses a cell. -/
structure RAccRes (w : World) (fb o rb rwb rhb : Nat) (v : Value) (F : Fm) (cs ws : List Nat) (ct : Nat) (op : Int) (a : Nat) (B C : Int) (V : Nat) (r er : Value) (w' : World) : Prop where
  res : r = .int .i64 (if accErr ws (adrN F.rs B V) = none then 0 else 3)
  err : TellsF w' er (inL vmL F.pc memL (accErr ws (adrN F.rs B V)))
  fm : FmAt w' fb o v (if accErr ws (adrN F.rs B V) = none then ⟨F.pc + 1, F.rs.set a (accY op a F.rs cs ws (adrN F.rs B V)), F.bk⟩ else F)
  mem : RefRep w' rb rwb rhb (accCs (accK op) cs ws (adrN F.rs B V) (F.rs.getD a 0) (accV op C a F.rs)) ws (accN ws (adrN F.rs B V) ct)
  fr : Fr (fun k => k = fb ∨ k = rb ∨ k = rhb) w w'
theorem RaccVal_fit {w : World} {b wb hb : Nat} {cs ws : List Nat} {N : Nat} (h : RefRep w b wb hb cs ws N) (p : Nat) : accVal cs ws p < 18446744073709551616 := by
  unfold accVal
  split
  · omega
  · exact getD_fit h.fits p

section
variable (fb o rb rwb rhb : Nat) (v : Value) (F : Fm) (cs ws : List Nat) (ct : Nat) (cg co n cap k : Nat) (A B C : Int) (V : Nat) (M W : Int) (w : World)

set_option maxRecDepth 100000 in
set_option maxHeartbeats 8000000 in
theorem rstep_acc17 (a : Nat) (ha : a < 32) (h : FmAt w fb o v F) (hi : InsAt w cg co k 17 a B C V M W) (hk : k < n) (hn : n ≤ 1000000) (hV : V < 18446744073709551616) (hpc : F.pc = k) (hg : goodV 17 a B C V n = true)
    (hm : RefRep w rb rwb rhb cs ws ct) (hct : ct + 1 < 1000000000) (hap : fb ≠ rb ∧ fb ≠ rwb ∧ fb ≠ rhb) (hvp : v.ownBlock ≠ some rb ∧ v.ownBlock ≠ some rhb) :
    Calls Tryd.prog 11 #[.pointer (some ⟨fb, o, none⟩), .slice (some ⟨cg, co, none⟩) n cap, (.pointer (some ⟨rb, 0, none⟩))] w fun e w' => ∃ r er, e = .returned (.tuple #[r, er]) ∧ RAccRes w fb o rb rwb rhb v F cs ws ct 17 a B C V r er w' := by
  have c0 := h.fr.pc
  have hl := h.fr.lt
  rw [hpc] at c0
  unfold goodV at hg
  rw [show ((17 : Int) != 22) = true from rfl] at hg
  have HRT := Lib.hid (fun w' => right_any 17 a B C 0 0 V n true w' hV (by omega))
  rw [hg] at HRT
  have HI := Lib.hid hi
  obtain ⟨_, x0, x1, x2, x3, x4, x5, x6⟩ := hi
  have q1 : (0 : Int) ≤ (k : Int) := by omega
  have q2 : (k : Int) < (n : Int) := by omega
  have tk : IntKind.i64.wrap ((k : Int) + 1) = (k : Int) + 1 := IntWalk.i64_in _ (by omega)
  have H := Lib.hid h
  have HPC := Lib.hid hpc
  have q3 : (0 : Int) ≤ (a : Int) := by omega
  have q4 : (a : Int) < 32 := by omega
  have hP := adrN_fit (rs := F.rs) B hV
  have hXf := getD_fit h.fr.fits a
  have hY := accV_fit h.fr.fits 17 C a
  have ca := h.fr.regD ha
  have HAA := Lib.hid (fun w' (f : New w w') => raddress_any fb o F.pc F.rs v 17 a B C V M W w' (h.fr.new f) hV)
  have HDO := Lib.hid (fun w' (f : New w w') => rdo_any (accK 17) rb rwb rhb cs ws ct (adrN F.rs B V) (F.rs.getD a 0) (accV 17 C a F.rs) w' (by decide) (hm.keep f id id id) hct hY hXf hP)
  have HFIN := Lib.hid (fun (r er : Value) (w' : World) h1 h2 h3 h4 h5 => RAccRes.mk (w := w) (fb := fb) (o := o) (rb := rb) (rwb := rwb) (rhb := rhb) (v := v) (F := F) (cs := cs) (ws := ws) (ct := ct) (op := 17) (a := a) (B := B) (C := C) (V := V) (r := r) (er := er) (w' := w') h1 h2 h3 h4 h5)
  obtain ⟨hm1, hm2, hm3⟩ := show rb < w.heap.size ∧ rwb < w.heap.size ∧ rhb < w.heap.size from ⟨hm.hd.lt, hm.widths.lt, hm.holds.lt⟩
  have HAK := Lib.hid (fun w' => raccK_any 17 w' (by omega))
  have hZ := RaccVal_fit hm (adrN F.rs B V)
  have hYX : accV 17 C a F.rs = F.rs.getD a 0 := rfl
  generalize accV 17 C a F.rs = Y at HDO HFIN hY hYX
  generalize accCs (accK 17) cs ws (adrN F.rs B V) (F.rs.getD a 0) Y = cs' at HDO HFIN
  generalize accN ws (adrN F.rs B V) ct = ct' at HDO HFIN
  generalize accErr ws (adrN F.rs B V) = oe at HDO HFIN
  generalize accK 17 = K0 at HDO HAK
  generalize adrN F.rs B V = P at HAA HDO HFIN hP hZ
  rw [show accY 17 a F.rs cs ws P = accVal cs ws P from rfl] at HFIN
  generalize accVal cs ws P = Z at HDO hZ HFIN
  subst hYX
  generalize F.rs.getD a 0 = X at HDO hXf ca
  clear h hg hpc hm
  go_enter Tryd.func11, Tryd.ntmps11
  go_wp2_with fail
  obtain ⟨W0, hW0⟩ : ∃ W0, (w.alloc (.cells #[.int .i64 17, .int .i64 a, .int .i64 B, .int .i64 C, .int .u64 V, .int .i64 M, .int .i64 W] 52)).alloc (.cells #[.int .i64 17, .int .i64 a, .int .i64 B, .int .i64 C, .int .u64 V, .int .i64 0, .int .i64 0] 52) = W0 := ⟨_, rfl⟩
  have hn0 : New w W0 := by rw [← hW0]; exact ((Fr.refl _ _).alloc _).alloc _
  have hb0 : W0.heap[w.heap.size]? = some (.cells #[.int .i64 17, .int .i64 a, .int .i64 B, .int .i64 C, .int .u64 V, .int .i64 M, .int .i64 W] 52 (0, 0)) := by rw [← hW0, block_alloc (by simp)]; exact block_alloc_new _ _
  rw [hW0]
  obtain ⟨xb, hxb⟩ : ∃ xb, w.heap.size = xb := ⟨_, rfl⟩
  have hxf : fb < xb := by omega
  rw [hxb] at hb0 ⊢
  refine (HRT.out _).mono ?_
  rintro e w1 ⟨rfl, hn1⟩
  have hb1 := (hn1.block xb (lt_of_block hb0) id).trans hb0
  have HB1 := Lib.hid hb1
  have HN1 := Lib.hid (hn0.trans hn1)
  have hx1 := lt_of_block hb1
  obtain ⟨y0, y1, y2, y3, y4, y5, y6⟩ := box_cells hb1
  have d0 := (HN1.out.cell hl id o).trans c0
  have zf : ∀ i, w1.frozen? ⟨fb, i, none⟩ = false := fun i => (HN1.out.frozen hl id i).trans (H.out.fr.free i)
  clear hW0 hn0 hb0 hn1 hb1 c0 x0 x1 x2 x3 x4 x5 x6 HRT HI
  have da := (HN1.out.cell hl id _).trans ca
  go_wp2_with fail
  go_quiet (fail)
  have n2 : New w1 (w1.drewN nq) := (Fr.refl _ _).drewN nq
  have HB2 := Lib.hid ((n2.block xb (lt_of_block HB1.out) id).trans HB1.out)
  have HN2 := Lib.hid (HN1.out.trans n2)
  generalize w1.drewN nq = w2 at n2 HB2 HN2 ⊢
  clear y0 y1 y2 y3 y4 y5 y6 da n2
  obtain ⟨y0, y1, y2, y3, y4, y5, y6⟩ := box_cells HB2.out
  have da := (HN2.out.cell hl id _).trans ca
  clear d0 zf
  go_wp2_with fail
  have n4 : New w2 w2.drew := (Fr.refl _ _).drew
  have HB4 := Lib.hid ((n4.block xb (lt_of_block HB2.out) id).trans HB2.out)
  have HN4 := Lib.hid (HN2.out.trans n4)
  refine heldStart (fun wz => (wz.cell? ⟨xb, 0, none⟩ = some (.int .i64 17) ∧ wz.cell? ⟨xb, 1, none⟩ = some (.int .i64 a) ∧ wz.cell? ⟨xb, 2, none⟩ = some (.int .i64 B) ∧ wz.cell? ⟨xb, 3, none⟩ = some (.int .i64 C) ∧ wz.cell? ⟨xb, 4, none⟩ = some (.int .u64 V) ∧ wz.cell? ⟨xb, 5, none⟩ = some (.int .i64 M) ∧ wz.cell? ⟨xb, 6, none⟩ = some (.int .i64 W)) ∧ wz.cell? ⟨fb, o + 1 + a, none⟩ = some (.int .u64 X)) (by kernel_rfl) ?_
  generalize w2.drew = w4 at n4 HB4 HN4 ⊢
  have s4 := And.intro (box_cells HB4.out) ((HN4.out.cell hl id (o + 1 + a)).trans ca)
  clear y0 y1 y2 y3 y4 y5 y6 da n4
  refine wpAnyH_take (i := 0) (v := ?_) rfl (by kernel_rfl) (by kernel_rfl) (by kernel_rfl) (fun _ _ _ h => h) (Or.inl ⟨by rfl, ?_⟩) s4 ?_
  rotate_left
  · intro w hSw; first | (obtain ⟨s1, s2, s3, s4, s5, s6, s7, s8⟩ := hSw; go_simp; rfl) | (obtain ⟨s1, s2, s3, s4, s5, s6, s7⟩ := hSw; go_simp; rfl) | (obtain ⟨s1, s2, s3⟩ := hSw; go_simp; rfl) | (obtain ⟨s1, s2⟩ := hSw; go_simp; rfl) | (have s1 := hSw; go_simp; rfl)
  go_simp
  refine wpAnyH_take (i := 1) (v := ?_) rfl (by kernel_rfl) (by kernel_rfl) (by kernel_rfl) (fun _ _ _ h => h) (Or.inl ⟨by rfl, ?_⟩) s4 ?_
  rotate_left
  · intro w hSw; first | (obtain ⟨s1, s2, s3, s4, s5, s6, s7, s8⟩ := hSw; go_simp; rfl) | (obtain ⟨s1, s2, s3, s4, s5, s6, s7⟩ := hSw; go_simp; rfl) | (obtain ⟨s1, s2, s3⟩ := hSw; go_simp; rfl) | (obtain ⟨s1, s2⟩ := hSw; go_simp; rfl) | (have s1 := hSw; go_simp; rfl)
  go_simp
  refine wpAnyH_take (i := 2) (v := ?_) rfl (by kernel_rfl) (by kernel_rfl) (by kernel_rfl) (fun _ _ _ h => h) (Or.inl ⟨by rfl, ?_⟩) s4 ?_
  rotate_left
  · intro w hSw; first | (obtain ⟨s1, s2, s3, s4, s5, s6, s7, s8⟩ := hSw; go_simp; rfl) | (obtain ⟨s1, s2, s3, s4, s5, s6, s7⟩ := hSw; go_simp; rfl) | (obtain ⟨s1, s2, s3⟩ := hSw; go_simp; rfl) | (obtain ⟨s1, s2⟩ := hSw; go_simp; rfl) | (have s1 := hSw; go_simp; rfl)
  go_simp
  refine wpAnyH_take (i := 4) (v := ?_) rfl (by kernel_rfl) (by kernel_rfl) (by kernel_rfl) (fun _ _ _ h => h) (Or.inl ⟨by rfl, ?_⟩) s4 ?_
  rotate_left
  · intro w hSw; first | (obtain ⟨s1, s2, s3, s4, s5, s6, s7, s8⟩ := hSw; go_simp; rfl) | (obtain ⟨s1, s2, s3, s4, s5, s6, s7⟩ := hSw; go_simp; rfl) | (obtain ⟨s1, s2, s3⟩ := hSw; go_simp; rfl) | (obtain ⟨s1, s2⟩ := hSw; go_simp; rfl) | (have s1 := hSw; go_simp; rfl)
  go_simp
  refine wpAnyH_take (i := 5) (v := ?_) rfl (by kernel_rfl) (by kernel_rfl) (by kernel_rfl) (fun _ _ _ h => h) (Or.inl ⟨by rfl, ?_⟩) s4 ?_
  rotate_left
  · intro w hSw; first | (obtain ⟨s1, s2, s3, s4, s5, s6, s7, s8⟩ := hSw; go_simp; rfl) | (obtain ⟨s1, s2, s3, s4, s5, s6, s7⟩ := hSw; go_simp; rfl) | (obtain ⟨s1, s2, s3⟩ := hSw; go_simp; rfl) | (obtain ⟨s1, s2⟩ := hSw; go_simp; rfl) | (have s1 := hSw; go_simp; rfl)
  go_simp
  refine wpAnyH_take (i := 7) (v := ?_) rfl (by kernel_rfl) (by kernel_rfl) (by kernel_rfl) (fun _ _ _ h => h) (Or.inl ⟨by rfl, ?_⟩) s4 ?_
  rotate_left
  · intro w hSw; first | (obtain ⟨s1, s2, s3, s4, s5, s6, s7, s8⟩ := hSw; go_simp; rfl) | (obtain ⟨s1, s2, s3, s4, s5, s6, s7⟩ := hSw; go_simp; rfl) | (obtain ⟨s1, s2, s3⟩ := hSw; go_simp; rfl) | (obtain ⟨s1, s2⟩ := hSw; go_simp; rfl) | (have s1 := hSw; go_simp; rfl)
  go_simp
  refine wpAnyH_take (i := 8) (v := ?_) rfl (by kernel_rfl) (by kernel_rfl) (by kernel_rfl) (fun _ _ _ h => h) (Or.inl ⟨by rfl, ?_⟩) s4 ?_
  rotate_left
  · intro w hSw; first | (obtain ⟨s1, s2, s3, s4, s5, s6, s7, s8⟩ := hSw; go_simp; rfl) | (obtain ⟨s1, s2, s3, s4, s5, s6, s7⟩ := hSw; go_simp; rfl) | (obtain ⟨s1, s2, s3⟩ := hSw; go_simp; rfl) | (obtain ⟨s1, s2⟩ := hSw; go_simp; rfl) | (have s1 := hSw; go_simp; rfl)
  go_simp
  refine wpAnyH_take (i := 9) (v := ?_) rfl (by kernel_rfl) (by kernel_rfl) (by kernel_rfl) (fun _ _ _ h => h) (Or.inl ⟨by rfl, ?_⟩) s4 ?_
  rotate_left
  · intro w hSw; first | (obtain ⟨s1, s2, s3, s4, s5, s6, s7, s8⟩ := hSw; go_simp; rfl) | (obtain ⟨s1, s2, s3, s4, s5, s6, s7⟩ := hSw; go_simp; rfl) | (obtain ⟨s1, s2, s3⟩ := hSw; go_simp; rfl) | (obtain ⟨s1, s2⟩ := hSw; go_simp; rfl) | (have s1 := hSw; go_simp; rfl)
  go_simp
  refine wpAnyH_take (i := 10) (v := ?_) rfl (by kernel_rfl) (by kernel_rfl) (by kernel_rfl) (fun _ _ _ h => h) (Or.inl ⟨by rfl, ?_⟩) s4 ?_
  rotate_left
  · intro w hSw; first | (obtain ⟨s1, s2, s3, s4, s5, s6, s7, s8⟩ := hSw; go_simp; rfl) | (obtain ⟨s1, s2, s3, s4, s5, s6, s7⟩ := hSw; go_simp; rfl) | (obtain ⟨s1, s2, s3⟩ := hSw; go_simp; rfl) | (obtain ⟨s1, s2⟩ := hSw; go_simp; rfl) | (have s1 := hSw; go_simp; rfl)
  go_simp
  refine wpAnyH_take (i := 11) (v := ?_) rfl (by kernel_rfl) (by kernel_rfl) (by kernel_rfl) (fun _ _ _ h => h) (Or.inl ⟨by rfl, ?_⟩) s4 ?_
  rotate_left
  · intro w hSw; first | (obtain ⟨s1, s2, s3, s4, s5, s6, s7, s8⟩ := hSw; go_simp; rfl) | (obtain ⟨s1, s2, s3, s4, s5, s6, s7⟩ := hSw; go_simp; rfl) | (obtain ⟨s1, s2, s3⟩ := hSw; go_simp; rfl) | (obtain ⟨s1, s2⟩ := hSw; go_simp; rfl) | (have s1 := hSw; go_simp; rfl)
  go_simp
  refine wpAnyH_take (i := 12) (v := ?_) rfl (by kernel_rfl) (by kernel_rfl) (by kernel_rfl) (fun _ _ _ h => h) (Or.inl ⟨by rfl, ?_⟩) s4 ?_
  rotate_left
  · intro w hSw; first | (obtain ⟨s1, s2, s3, s4, s5, s6, s7, s8⟩ := hSw; go_simp; rfl) | (obtain ⟨s1, s2, s3, s4, s5, s6, s7⟩ := hSw; go_simp; rfl) | (obtain ⟨s1, s2, s3⟩ := hSw; go_simp; rfl) | (obtain ⟨s1, s2⟩ := hSw; go_simp; rfl) | (have s1 := hSw; go_simp; rfl)
  go_simp
  refine wpAnyH_take (i := 13) (v := ?_) rfl (by kernel_rfl) (by kernel_rfl) (by kernel_rfl) (fun _ _ _ h => h) (Or.inl ⟨by rfl, ?_⟩) s4 ?_
  rotate_left
  · intro w hSw; first | (obtain ⟨s1, s2, s3, s4, s5, s6, s7, s8⟩ := hSw; go_simp; rfl) | (obtain ⟨s1, s2, s3, s4, s5, s6, s7⟩ := hSw; go_simp; rfl) | (obtain ⟨s1, s2, s3⟩ := hSw; go_simp; rfl) | (obtain ⟨s1, s2⟩ := hSw; go_simp; rfl) | (have s1 := hSw; go_simp; rfl)
  go_simp
  refine wpAnyH_take (i := 14) (v := ?_) rfl (by kernel_rfl) (by kernel_rfl) (by kernel_rfl) (fun _ _ _ h => h) (Or.inl ⟨by rfl, ?_⟩) s4 ?_
  rotate_left
  · intro w hSw; first | (obtain ⟨s1, s2, s3, s4, s5, s6, s7, s8⟩ := hSw; go_simp; rfl) | (obtain ⟨s1, s2, s3, s4, s5, s6, s7⟩ := hSw; go_simp; rfl) | (obtain ⟨s1, s2, s3⟩ := hSw; go_simp; rfl) | (obtain ⟨s1, s2⟩ := hSw; go_simp; rfl) | (have s1 := hSw; go_simp; rfl)
  go_simp
  refine heldOne (i := 3) (by kernel_rfl) rfl (by rfl) (fun K hK => ?_)
  go_simp
  refine (HAK.out w4).mono ?_
  rintro e w' ⟨rfl, rfl⟩
  refine hK.out _ _ s4 ?_
  clear hK K
  refine heldOne (i := 6) (by kernel_rfl) rfl (by rfl) (fun K hK => ?_)
  go_simp
  refine (HAA.out w4 HN4.out).mono ?_
  rintro e w5 ⟨rfl, hn5⟩
  have HB5 := Lib.hid ((hn5.block xb (lt_of_block HB4.out) id).trans HB4.out)
  have HN5 := Lib.hid (HN4.out.trans hn5)
  have s5 := And.intro (box_cells HB5.out) ((HN5.out.cell hl id (o + 1 + a)).trans ca)
  refine hK.out _ _ s5 ?_
  clear hK K s4 hn5
  refine heldOne (i := 15) (by kernel_rfl) rfl (by rfl) (fun K hK => ?_)
  go_simp
  refine (HDO.out w5 HN5.out).mono ?_
  rintro e w6 ⟨f, rfl, hsf, hrep, hfr⟩
  have hb6 := (hfr.block xb (lt_of_block HB5.out) (fun e => by obtain ⟨_, e⟩ := e; omega)).trans HB5.out
  have f6 : Fr (fun k => k = rb ∨ k = rhb) w w6 := (HN5.out.mono (T := fun k => k = rb ∨ k = rhb) (fun _ _ h => h.elim)).trans (hfr.mono (fun _ _ h => h.2))
  have s6 := And.intro (box_cells hb6) ((f6.cell hl (fun e => by omega) (o + 1 + a)).trans ca)
  have HB6 := Lib.hid hb6
  have HSF := Lib.hid hsf
  have HREP := Lib.hid hrep
  have HF6 := Lib.hid f6
  refine hK.out _ _ s6 ?_
  clear hK K s5 hsf hrep hfr hb6 f6
  refine wpAnyH_take (i := 16) (v := ?_) rfl (by kernel_rfl) (by kernel_rfl) (by kernel_rfl) (fun _ _ _ h => h) (Or.inl ⟨by rfl, ?_⟩) s6 ?_
  rotate_left
  · intro w hSw; first | (obtain ⟨s1, s2, s3, s4, s5, s6, s7, s8⟩ := hSw; go_simp; rfl) | (obtain ⟨s1, s2, s3, s4, s5, s6, s7⟩ := hSw; go_simp; rfl) | (obtain ⟨s1, s2, s3⟩ := hSw; go_simp; rfl) | (obtain ⟨s1, s2⟩ := hSw; go_simp; rfl) | (have s1 := hSw; go_simp; rfl)
  go_simp
  refine wpAnyH_take (i := 17) (v := ?_) rfl (by kernel_rfl) (by kernel_rfl) (by kernel_rfl) (fun _ _ _ h => h) (Or.inl ⟨by rfl, ?_⟩) s6 ?_
  rotate_left
  · intro w hSw; first | (obtain ⟨s1, s2, s3, s4, s5, s6, s7, s8⟩ := hSw; go_simp; rfl) | (obtain ⟨s1, s2, s3, s4, s5, s6, s7⟩ := hSw; go_simp; rfl) | (obtain ⟨s1, s2, s3⟩ := hSw; go_simp; rfl) | (obtain ⟨s1, s2⟩ := hSw; go_simp; rfl) | (have s1 := hSw; go_simp; rfl)
  go_simp
  refine wpAnyH_take (i := 18) (v := ?_) rfl (by kernel_rfl) (by kernel_rfl) (by kernel_rfl) (fun _ _ _ h => h) (Or.inl ⟨by rfl, ?_⟩) s6 ?_
  rotate_left
  · intro w hSw; first | (obtain ⟨s1, s2, s3, s4, s5, s6, s7, s8⟩ := hSw; go_simp; rfl) | (obtain ⟨s1, s2, s3, s4, s5, s6, s7⟩ := hSw; go_simp; rfl) | (obtain ⟨s1, s2, s3⟩ := hSw; go_simp; rfl) | (obtain ⟨s1, s2⟩ := hSw; go_simp; rfl) | (have s1 := hSw; go_simp; rfl)
  go_simp
  refine wpAnyH_take (i := 19) (v := ?_) rfl (by kernel_rfl) (by kernel_rfl) (by kernel_rfl) (fun _ _ _ h => h) (Or.inl ⟨by rfl, ?_⟩) s6 ?_
  rotate_left
  · intro w hSw; first | (obtain ⟨s1, s2, s3, s4, s5, s6, s7, s8⟩ := hSw; go_simp; rfl) | (obtain ⟨s1, s2, s3, s4, s5, s6, s7⟩ := hSw; go_simp; rfl) | (obtain ⟨s1, s2, s3⟩ := hSw; go_simp; rfl) | (obtain ⟨s1, s2⟩ := hSw; go_simp; rfl) | (have s1 := hSw; go_simp; rfl)
  go_simp
  refine wpAnyH_take (i := 20) (v := ?_) rfl (by kernel_rfl) (by kernel_rfl) (by kernel_rfl) (fun _ _ _ h => h) (Or.inl ⟨by rfl, ?_⟩) s6 ?_
  rotate_left
  · intro w hSw; first | (obtain ⟨s1, s2, s3, s4, s5, s6, s7, s8⟩ := hSw; go_simp; rfl) | (obtain ⟨s1, s2, s3, s4, s5, s6, s7⟩ := hSw; go_simp; rfl) | (obtain ⟨s1, s2, s3⟩ := hSw; go_simp; rfl) | (obtain ⟨s1, s2⟩ := hSw; go_simp; rfl) | (have s1 := hSw; go_simp; rfl)
  go_simp
  refine wpAnyH_done (by kernel_rfl) ?_ _
  have hfm6 := H.out.keep HF6.out (fun e => by omega) (fun i hi e => by
    rcases e with rfl | rfl
    · exact hvp.1 hi
    · exact hvp.2 hi)
  have HFM6 := Lib.hid hfm6
  have y0 : w6.cell? ⟨xb, 0, none⟩ = some (.int .i64 17) := s6.1.1
  clear hfm6 s6
  cases oe with
  | none =>
    obtain rfl : f = .pointer none := HSF.out
    go_wp2_with fail
    have n7 : New w6 w6.drew := (Fr.refl _ _).drew
    have HB7 := Lib.hid ((n7.block xb (lt_of_block HB6.out) id).trans HB6.out)
    have HFM7 := Lib.hid (HFM6.out.new n7)
    have HREP7 := Lib.hid (HREP.out.keep n7 id id id)
    have HF7 := Lib.hid (HF6.out.trans (n7.mono (fun _ _ h => h.elim)))
    refine heldStart (fun wz => wz.cell? ⟨xb, 1, none⟩ = some (.int .i64 a)) (by kernel_rfl) ?_
    generalize w6.drew = w7 at n7 HB7 HFM7 HREP7 HF7 ⊢
    have s7 : w7.cell? ⟨xb, 1, none⟩ = some (.int .i64 a) := cell_of_block HB7.out 1
    clear y0 n7
    refine wpAnyH_take (i := 0) (v := ?_) rfl (by kernel_rfl) (by kernel_rfl) (by kernel_rfl) (fun _ _ _ h => h) (Or.inl ⟨by rfl, ?_⟩) s7 ?_
    rotate_left
    · intro w hSw; first | (obtain ⟨s1, s2, s3, s4, s5, s6, s7, s8⟩ := hSw; go_simp; rfl) | (obtain ⟨s1, s2, s3, s4, s5, s6, s7⟩ := hSw; go_simp; rfl) | (obtain ⟨s1, s2, s3⟩ := hSw; go_simp; rfl) | (obtain ⟨s1, s2⟩ := hSw; go_simp; rfl) | (have s1 := hSw; go_simp; rfl)
    go_simp
    refine wpAnyH_take (i := 1) (v := ?_) rfl (by kernel_rfl) (by kernel_rfl) (by kernel_rfl) (fun _ _ _ h => h) (Or.inl ⟨by rfl, ?_⟩) s7 ?_
    rotate_left
    · intro w hSw; first | (obtain ⟨s1, s2, s3, s4, s5, s6, s7, s8⟩ := hSw; go_simp; rfl) | (obtain ⟨s1, s2, s3, s4, s5, s6, s7⟩ := hSw; go_simp; rfl) | (obtain ⟨s1, s2, s3⟩ := hSw; go_simp; rfl) | (obtain ⟨s1, s2⟩ := hSw; go_simp; rfl) | (have s1 := hSw; go_simp; rfl)
    go_simp
    refine wpAnyH_take (i := 2) (v := ?_) rfl (by kernel_rfl) (by kernel_rfl) (by kernel_rfl) (fun _ _ _ h => h) (Or.inl ⟨by rfl, ?_⟩) s7 ?_
    rotate_left
    · intro w hSw; first | (obtain ⟨s1, s2, s3, s4, s5, s6, s7, s8⟩ := hSw; go_simp; rfl) | (obtain ⟨s1, s2, s3, s4, s5, s6, s7⟩ := hSw; go_simp; rfl) | (obtain ⟨s1, s2, s3⟩ := hSw; go_simp; rfl) | (obtain ⟨s1, s2⟩ := hSw; go_simp; rfl) | (have s1 := hSw; go_simp; rfl)
    go_simp
    refine wpAnyH_take (i := 3) (v := ?_) rfl (by kernel_rfl) (by kernel_rfl) (by kernel_rfl) (fun _ _ _ h => h) (Or.inl ⟨by rfl, ?_⟩) s7 ?_
    rotate_left
    · intro w hSw; first | (obtain ⟨s1, s2, s3, s4, s5, s6, s7, s8⟩ := hSw; go_simp; rfl) | (obtain ⟨s1, s2, s3, s4, s5, s6, s7⟩ := hSw; go_simp; rfl) | (obtain ⟨s1, s2, s3⟩ := hSw; go_simp; rfl) | (obtain ⟨s1, s2⟩ := hSw; go_simp; rfl) | (have s1 := hSw; go_simp; rfl)
    go_simp
    refine wpAnyH_take (i := 4) (v := ?_) rfl (by kernel_rfl) (by kernel_rfl) (by kernel_rfl) (fun _ _ _ h => h) (Or.inl ⟨by rfl, ?_⟩) s7 ?_
    rotate_left
    · intro w hSw; first | (obtain ⟨s1, s2, s3, s4, s5, s6, s7, s8⟩ := hSw; go_simp; rfl) | (obtain ⟨s1, s2, s3, s4, s5, s6, s7⟩ := hSw; go_simp; rfl) | (obtain ⟨s1, s2, s3⟩ := hSw; go_simp; rfl) | (obtain ⟨s1, s2⟩ := hSw; go_simp; rfl) | (have s1 := hSw; go_simp; rfl)
    go_simp
    refine wpAnyH_take (i := 5) (v := ?_) rfl (by kernel_rfl) (by kernel_rfl) (by kernel_rfl) (fun _ _ _ h => h) (Or.inl ⟨by rfl, ?_⟩) s7 ?_
    rotate_left
    · intro w hSw; first | (obtain ⟨s1, s2, s3, s4, s5, s6, s7, s8⟩ := hSw; go_simp; rfl) | (obtain ⟨s1, s2, s3, s4, s5, s6, s7⟩ := hSw; go_simp; rfl) | (obtain ⟨s1, s2, s3⟩ := hSw; go_simp; rfl) | (obtain ⟨s1, s2⟩ := hSw; go_simp; rfl) | (have s1 := hSw; go_simp; rfl)
    go_simp
    refine wpAnyH_take (i := 6) (v := ?_) rfl (by kernel_rfl) (by kernel_rfl) (by kernel_rfl) (fun _ _ _ h => h) (Or.inl ⟨by rfl, ?_⟩) s7 ?_
    rotate_left
    · intro w hSw; first | (obtain ⟨s1, s2, s3, s4, s5, s6, s7, s8⟩ := hSw; go_simp; rfl) | (obtain ⟨s1, s2, s3, s4, s5, s6, s7⟩ := hSw; go_simp; rfl) | (obtain ⟨s1, s2, s3⟩ := hSw; go_simp; rfl) | (obtain ⟨s1, s2⟩ := hSw; go_simp; rfl) | (have s1 := hSw; go_simp; rfl)
    go_simp
    refine heldOne (i := 7) (by kernel_rfl) rfl (by rfl) (fun K hK => ?_)
    have ya := HFM7.out.fr.regD ha
    have yz := HFM7.out.fr.free
    go_simp
    have f8 := Fr34.set (fb := fb) (o := o) (w := w7) (i := o + 1 + a) (.int .u64 (Z : Nat)) (by omega) (by omega)
    have HFM8 := Lib.hid (HFM7.out.setReg ha hZ)
    have HREP8 := Lib.hid (HREP7.out.keep f8.fr (Ne.symm hap.1) (Ne.symm hap.2.1) (Ne.symm hap.2.2))
    have HF8 := Lib.hid ((HF7.out.mono (T := fun k => k = fb ∨ k = rb ∨ k = rhb) (fun _ _ h => .inr h)).trans (f8.fr.mono (fun _ _ h => .inl h)))
    have s8 : (w7.setCell ⟨fb, o + 1 + a, none⟩ (.int .u64 (Z : Nat))).cell? ⟨xb, 1, none⟩ = some (.int .i64 a) := by rw [cell_set_ne _ (.inl (by omega))]; exact s7
    refine hK.out _ _ s8 ?_
    clear hK K ya yz s7 f8
    refine wpAnyH_done (by kernel_rfl) ?_ _
    generalize w7.setCell ⟨fb, o + 1 + a, none⟩ (.int .u64 (Z : Nat)) = w8 at HFM8 HREP8 HF8 s8 ⊢
    have e0 : w8.cell? ⟨fb, o, none⟩ = some (.int .i64 k) := by rw [← HPC.out]; exact HFM8.out.fr.pc
    have zf : ∀ i, w8.frozen? ⟨fb, i, none⟩ = false := HFM8.out.fr.free
    clear s8
    go_wp2
    go_ret2
    have f9 := Fr34.set (fb := fb) (o := o) (w := w8) (.int .i64 ((k : Int) + 1)) (Nat.le_refl _) (by omega)
    exact ⟨_, _, rfl, HFIN.out _ _ _ rfl rfl (by rw [HPC.out]; exact HFM8.out.setPc _) (HREP8.out.keep f9.fr (Ne.symm hap.1) (Ne.symm hap.2.1) (Ne.symm hap.2.2)) (HF8.out.trans (f9.fr.mono (fun _ _ h => .inl h)))⟩
  | some x =>
    obtain ⟨q, kk⟩ := x
    obtain ⟨eb, rfl⟩ := HSF.out.at
    have e0 : w6.cell? ⟨fb, o, none⟩ = some (.int .i64 k) := by rw [← HPC.out]; exact HFM6.out.fr.pc
    go_wp2_with fail
    refine (in_any vmL k _ _ kk _ (failN_of HSF.out) (by simp)).mono ?_
    rintro e w7 ⟨f', rfl, hf7, hn7⟩
    have HFN := Lib.hid hf7
    have HREP7 := Lib.hid (HREP.out.keep hn7 id id id)
    have HFM7 := Lib.hid (HFM6.out.new hn7)
    have HF7 := Lib.hid (HF6.out.trans (hn7.mono (fun _ _ h => h.elim)))
    clear hf7 hn7 e0 y0
    go_wp2
    go_ret2
    exact ⟨_, _, rfl, HFIN.out _ _ _ rfl (by rw [HPC.out]; exact HFN.out) HFM7.out HREP7.out (HF7.out.mono (fun _ _ h => .inr h))⟩

set_option maxRecDepth 100000 in
set_option maxHeartbeats 8000000 in
theorem rstep_acc18 (a : Nat) (ha : a < 32) (h : FmAt w fb o v F) (hi : InsAt w cg co k 18 a B C V M W) (hk : k < n) (hn : n ≤ 1000000) (hV : V < 18446744073709551616) (hpc : F.pc = k) (hg : goodV 18 a B C V n = true)
    (hm : RefRep w rb rwb rhb cs ws ct) (hct : ct + 1 < 1000000000) (hap : fb ≠ rb ∧ fb ≠ rwb ∧ fb ≠ rhb) (hvp : v.ownBlock ≠ some rb ∧ v.ownBlock ≠ some rhb) :
    Calls Tryd.prog 11 #[.pointer (some ⟨fb, o, none⟩), .slice (some ⟨cg, co, none⟩) n cap, (.pointer (some ⟨rb, 0, none⟩))] w fun e w' => ∃ r er, e = .returned (.tuple #[r, er]) ∧ RAccRes w fb o rb rwb rhb v F cs ws ct 18 a B C V r er w' := by
  have c0 := h.fr.pc
  have hl := h.fr.lt
  rw [hpc] at c0
  unfold goodV at hg
  rw [show ((18 : Int) != 22) = true from rfl] at hg
  have HRT := Lib.hid (fun w' => right_any 18 a B C 0 0 V n true w' hV (by omega))
  rw [hg] at HRT
  have HI := Lib.hid hi
  obtain ⟨_, x0, x1, x2, x3, x4, x5, x6⟩ := hi
  have q1 : (0 : Int) ≤ (k : Int) := by omega
  have q2 : (k : Int) < (n : Int) := by omega
  have tk : IntKind.i64.wrap ((k : Int) + 1) = (k : Int) + 1 := IntWalk.i64_in _ (by omega)
  have H := Lib.hid h
  have HPC := Lib.hid hpc
  have q3 : (0 : Int) ≤ (a : Int) := by omega
  have q4 : (a : Int) < 32 := by omega
  have hP := adrN_fit (rs := F.rs) B hV
  have hXf := getD_fit h.fr.fits a
  have hY := accV_fit h.fr.fits 18 C a
  have ca := h.fr.regD ha
  have HAA := Lib.hid (fun w' (f : New w w') => raddress_any fb o F.pc F.rs v 18 a B C V M W w' (h.fr.new f) hV)
  have HDO := Lib.hid (fun w' (f : New w w') => rdo_any (accK 18) rb rwb rhb cs ws ct (adrN F.rs B V) (F.rs.getD a 0) (accV 18 C a F.rs) w' (by decide) (hm.keep f id id id) hct hY hXf hP)
  have HFIN := Lib.hid (fun (r er : Value) (w' : World) h1 h2 h3 h4 h5 => RAccRes.mk (w := w) (fb := fb) (o := o) (rb := rb) (rwb := rwb) (rhb := rhb) (v := v) (F := F) (cs := cs) (ws := ws) (ct := ct) (op := 18) (a := a) (B := B) (C := C) (V := V) (r := r) (er := er) (w' := w') h1 h2 h3 h4 h5)
  obtain ⟨hm1, hm2, hm3⟩ := show rb < w.heap.size ∧ rwb < w.heap.size ∧ rhb < w.heap.size from ⟨hm.hd.lt, hm.widths.lt, hm.holds.lt⟩
  have HAK := Lib.hid (fun w' => raccK_any 18 w' (by omega))
  have hZ := RaccVal_fit hm (adrN F.rs B V)
  have hYX : accV 18 C a F.rs = F.rs.getD a 0 := rfl
  generalize accV 18 C a F.rs = Y at HDO HFIN hY hYX
  generalize accCs (accK 18) cs ws (adrN F.rs B V) (F.rs.getD a 0) Y = cs' at HDO HFIN
  generalize accN ws (adrN F.rs B V) ct = ct' at HDO HFIN
  generalize accErr ws (adrN F.rs B V) = oe at HDO HFIN
  generalize accK 18 = K0 at HDO HAK
  generalize adrN F.rs B V = P at HAA HDO HFIN hP hZ
  rw [show accY 18 a F.rs cs ws P = F.rs.getD a 0 from rfl, rs_set_self] at HFIN
  generalize accVal cs ws P = Z at HDO hZ
  subst hYX
  generalize F.rs.getD a 0 = X at HDO hXf ca
  clear h hg hpc hm
  go_enter Tryd.func11, Tryd.ntmps11
  go_wp2_with fail
  obtain ⟨W0, hW0⟩ : ∃ W0, (w.alloc (.cells #[.int .i64 18, .int .i64 a, .int .i64 B, .int .i64 C, .int .u64 V, .int .i64 M, .int .i64 W] 52)).alloc (.cells #[.int .i64 18, .int .i64 a, .int .i64 B, .int .i64 C, .int .u64 V, .int .i64 0, .int .i64 0] 52) = W0 := ⟨_, rfl⟩
  have hn0 : New w W0 := by rw [← hW0]; exact ((Fr.refl _ _).alloc _).alloc _
  have hb0 : W0.heap[w.heap.size]? = some (.cells #[.int .i64 18, .int .i64 a, .int .i64 B, .int .i64 C, .int .u64 V, .int .i64 M, .int .i64 W] 52 (0, 0)) := by rw [← hW0, block_alloc (by simp)]; exact block_alloc_new _ _
  rw [hW0]
  obtain ⟨xb, hxb⟩ : ∃ xb, w.heap.size = xb := ⟨_, rfl⟩
  have hxf : fb < xb := by omega
  rw [hxb] at hb0 ⊢
  refine (HRT.out _).mono ?_
  rintro e w1 ⟨rfl, hn1⟩
  have hb1 := (hn1.block xb (lt_of_block hb0) id).trans hb0
  have HB1 := Lib.hid hb1
  have HN1 := Lib.hid (hn0.trans hn1)
  have hx1 := lt_of_block hb1
  obtain ⟨y0, y1, y2, y3, y4, y5, y6⟩ := box_cells hb1
  have d0 := (HN1.out.cell hl id o).trans c0
  have zf : ∀ i, w1.frozen? ⟨fb, i, none⟩ = false := fun i => (HN1.out.frozen hl id i).trans (H.out.fr.free i)
  clear hW0 hn0 hb0 hn1 hb1 c0 x0 x1 x2 x3 x4 x5 x6 HRT HI
  have da := (HN1.out.cell hl id _).trans ca
  go_wp2_with fail
  go_quiet (fail)
  have n2 : New w1 (w1.drewN nq) := (Fr.refl _ _).drewN nq
  have HB2 := Lib.hid ((n2.block xb (lt_of_block HB1.out) id).trans HB1.out)
  have HN2 := Lib.hid (HN1.out.trans n2)
  generalize w1.drewN nq = w2 at n2 HB2 HN2 ⊢
  clear y0 y1 y2 y3 y4 y5 y6 da n2
  obtain ⟨y0, y1, y2, y3, y4, y5, y6⟩ := box_cells HB2.out
  have da := (HN2.out.cell hl id _).trans ca
  clear d0 zf
  go_wp2_with fail
  have n4 : New w2 w2.drew := (Fr.refl _ _).drew
  have HB4 := Lib.hid ((n4.block xb (lt_of_block HB2.out) id).trans HB2.out)
  have HN4 := Lib.hid (HN2.out.trans n4)
  refine heldStart (fun wz => (wz.cell? ⟨xb, 0, none⟩ = some (.int .i64 18) ∧ wz.cell? ⟨xb, 1, none⟩ = some (.int .i64 a) ∧ wz.cell? ⟨xb, 2, none⟩ = some (.int .i64 B) ∧ wz.cell? ⟨xb, 3, none⟩ = some (.int .i64 C) ∧ wz.cell? ⟨xb, 4, none⟩ = some (.int .u64 V) ∧ wz.cell? ⟨xb, 5, none⟩ = some (.int .i64 M) ∧ wz.cell? ⟨xb, 6, none⟩ = some (.int .i64 W)) ∧ wz.cell? ⟨fb, o + 1 + a, none⟩ = some (.int .u64 X)) (by kernel_rfl) ?_
  generalize w2.drew = w4 at n4 HB4 HN4 ⊢
  have s4 := And.intro (box_cells HB4.out) ((HN4.out.cell hl id (o + 1 + a)).trans ca)
  clear y0 y1 y2 y3 y4 y5 y6 da n4
  refine wpAnyH_take (i := 0) (v := ?_) rfl (by kernel_rfl) (by kernel_rfl) (by kernel_rfl) (fun _ _ _ h => h) (Or.inl ⟨by rfl, ?_⟩) s4 ?_
  rotate_left
  · intro w hSw; first | (obtain ⟨s1, s2, s3, s4, s5, s6, s7, s8⟩ := hSw; go_simp; rfl) | (obtain ⟨s1, s2, s3, s4, s5, s6, s7⟩ := hSw; go_simp; rfl) | (obtain ⟨s1, s2, s3⟩ := hSw; go_simp; rfl) | (obtain ⟨s1, s2⟩ := hSw; go_simp; rfl) | (have s1 := hSw; go_simp; rfl)
  go_simp
  refine wpAnyH_take (i := 1) (v := ?_) rfl (by kernel_rfl) (by kernel_rfl) (by kernel_rfl) (fun _ _ _ h => h) (Or.inl ⟨by rfl, ?_⟩) s4 ?_
  rotate_left
  · intro w hSw; first | (obtain ⟨s1, s2, s3, s4, s5, s6, s7, s8⟩ := hSw; go_simp; rfl) | (obtain ⟨s1, s2, s3, s4, s5, s6, s7⟩ := hSw; go_simp; rfl) | (obtain ⟨s1, s2, s3⟩ := hSw; go_simp; rfl) | (obtain ⟨s1, s2⟩ := hSw; go_simp; rfl) | (have s1 := hSw; go_simp; rfl)
  go_simp
  refine wpAnyH_take (i := 2) (v := ?_) rfl (by kernel_rfl) (by kernel_rfl) (by kernel_rfl) (fun _ _ _ h => h) (Or.inl ⟨by rfl, ?_⟩) s4 ?_
  rotate_left
  · intro w hSw; first | (obtain ⟨s1, s2, s3, s4, s5, s6, s7, s8⟩ := hSw; go_simp; rfl) | (obtain ⟨s1, s2, s3, s4, s5, s6, s7⟩ := hSw; go_simp; rfl) | (obtain ⟨s1, s2, s3⟩ := hSw; go_simp; rfl) | (obtain ⟨s1, s2⟩ := hSw; go_simp; rfl) | (have s1 := hSw; go_simp; rfl)
  go_simp
  refine wpAnyH_take (i := 4) (v := ?_) rfl (by kernel_rfl) (by kernel_rfl) (by kernel_rfl) (fun _ _ _ h => h) (Or.inl ⟨by rfl, ?_⟩) s4 ?_
  rotate_left
  · intro w hSw; first | (obtain ⟨s1, s2, s3, s4, s5, s6, s7, s8⟩ := hSw; go_simp; rfl) | (obtain ⟨s1, s2, s3, s4, s5, s6, s7⟩ := hSw; go_simp; rfl) | (obtain ⟨s1, s2, s3⟩ := hSw; go_simp; rfl) | (obtain ⟨s1, s2⟩ := hSw; go_simp; rfl) | (have s1 := hSw; go_simp; rfl)
  go_simp
  refine wpAnyH_take (i := 5) (v := ?_) rfl (by kernel_rfl) (by kernel_rfl) (by kernel_rfl) (fun _ _ _ h => h) (Or.inl ⟨by rfl, ?_⟩) s4 ?_
  rotate_left
  · intro w hSw; first | (obtain ⟨s1, s2, s3, s4, s5, s6, s7, s8⟩ := hSw; go_simp; rfl) | (obtain ⟨s1, s2, s3, s4, s5, s6, s7⟩ := hSw; go_simp; rfl) | (obtain ⟨s1, s2, s3⟩ := hSw; go_simp; rfl) | (obtain ⟨s1, s2⟩ := hSw; go_simp; rfl) | (have s1 := hSw; go_simp; rfl)
  go_simp
  refine wpAnyH_take (i := 7) (v := ?_) rfl (by kernel_rfl) (by kernel_rfl) (by kernel_rfl) (fun _ _ _ h => h) (Or.inl ⟨by rfl, ?_⟩) s4 ?_
  rotate_left
  · intro w hSw; first | (obtain ⟨s1, s2, s3, s4, s5, s6, s7, s8⟩ := hSw; go_simp; rfl) | (obtain ⟨s1, s2, s3, s4, s5, s6, s7⟩ := hSw; go_simp; rfl) | (obtain ⟨s1, s2, s3⟩ := hSw; go_simp; rfl) | (obtain ⟨s1, s2⟩ := hSw; go_simp; rfl) | (have s1 := hSw; go_simp; rfl)
  go_simp
  refine wpAnyH_take (i := 8) (v := ?_) rfl (by kernel_rfl) (by kernel_rfl) (by kernel_rfl) (fun _ _ _ h => h) (Or.inl ⟨by rfl, ?_⟩) s4 ?_
  rotate_left
  · intro w hSw; first | (obtain ⟨s1, s2, s3, s4, s5, s6, s7, s8⟩ := hSw; go_simp; rfl) | (obtain ⟨s1, s2, s3, s4, s5, s6, s7⟩ := hSw; go_simp; rfl) | (obtain ⟨s1, s2, s3⟩ := hSw; go_simp; rfl) | (obtain ⟨s1, s2⟩ := hSw; go_simp; rfl) | (have s1 := hSw; go_simp; rfl)
  go_simp
  refine wpAnyH_take (i := 9) (v := ?_) rfl (by kernel_rfl) (by kernel_rfl) (by kernel_rfl) (fun _ _ _ h => h) (Or.inl ⟨by rfl, ?_⟩) s4 ?_
  rotate_left
  · intro w hSw; first | (obtain ⟨s1, s2, s3, s4, s5, s6, s7, s8⟩ := hSw; go_simp; rfl) | (obtain ⟨s1, s2, s3, s4, s5, s6, s7⟩ := hSw; go_simp; rfl) | (obtain ⟨s1, s2, s3⟩ := hSw; go_simp; rfl) | (obtain ⟨s1, s2⟩ := hSw; go_simp; rfl) | (have s1 := hSw; go_simp; rfl)
  go_simp
  refine wpAnyH_take (i := 10) (v := ?_) rfl (by kernel_rfl) (by kernel_rfl) (by kernel_rfl) (fun _ _ _ h => h) (Or.inl ⟨by rfl, ?_⟩) s4 ?_
  rotate_left
  · intro w hSw; first | (obtain ⟨s1, s2, s3, s4, s5, s6, s7, s8⟩ := hSw; go_simp; rfl) | (obtain ⟨s1, s2, s3, s4, s5, s6, s7⟩ := hSw; go_simp; rfl) | (obtain ⟨s1, s2, s3⟩ := hSw; go_simp; rfl) | (obtain ⟨s1, s2⟩ := hSw; go_simp; rfl) | (have s1 := hSw; go_simp; rfl)
  go_simp
  refine wpAnyH_take (i := 11) (v := ?_) rfl (by kernel_rfl) (by kernel_rfl) (by kernel_rfl) (fun _ _ _ h => h) (Or.inl ⟨by rfl, ?_⟩) s4 ?_
  rotate_left
  · intro w hSw; first | (obtain ⟨s1, s2, s3, s4, s5, s6, s7, s8⟩ := hSw; go_simp; rfl) | (obtain ⟨s1, s2, s3, s4, s5, s6, s7⟩ := hSw; go_simp; rfl) | (obtain ⟨s1, s2, s3⟩ := hSw; go_simp; rfl) | (obtain ⟨s1, s2⟩ := hSw; go_simp; rfl) | (have s1 := hSw; go_simp; rfl)
  go_simp
  refine wpAnyH_take (i := 12) (v := ?_) rfl (by kernel_rfl) (by kernel_rfl) (by kernel_rfl) (fun _ _ _ h => h) (Or.inl ⟨by rfl, ?_⟩) s4 ?_
  rotate_left
  · intro w hSw; first | (obtain ⟨s1, s2, s3, s4, s5, s6, s7, s8⟩ := hSw; go_simp; rfl) | (obtain ⟨s1, s2, s3, s4, s5, s6, s7⟩ := hSw; go_simp; rfl) | (obtain ⟨s1, s2, s3⟩ := hSw; go_simp; rfl) | (obtain ⟨s1, s2⟩ := hSw; go_simp; rfl) | (have s1 := hSw; go_simp; rfl)
  go_simp
  refine wpAnyH_take (i := 13) (v := ?_) rfl (by kernel_rfl) (by kernel_rfl) (by kernel_rfl) (fun _ _ _ h => h) (Or.inl ⟨by rfl, ?_⟩) s4 ?_
  rotate_left
  · intro w hSw; first | (obtain ⟨s1, s2, s3, s4, s5, s6, s7, s8⟩ := hSw; go_simp; rfl) | (obtain ⟨s1, s2, s3, s4, s5, s6, s7⟩ := hSw; go_simp; rfl) | (obtain ⟨s1, s2, s3⟩ := hSw; go_simp; rfl) | (obtain ⟨s1, s2⟩ := hSw; go_simp; rfl) | (have s1 := hSw; go_simp; rfl)
  go_simp
  refine wpAnyH_take (i := 14) (v := ?_) rfl (by kernel_rfl) (by kernel_rfl) (by kernel_rfl) (fun _ _ _ h => h) (Or.inl ⟨by rfl, ?_⟩) s4 ?_
  rotate_left
  · intro w hSw; first | (obtain ⟨s1, s2, s3, s4, s5, s6, s7, s8⟩ := hSw; go_simp; rfl) | (obtain ⟨s1, s2, s3, s4, s5, s6, s7⟩ := hSw; go_simp; rfl) | (obtain ⟨s1, s2, s3⟩ := hSw; go_simp; rfl) | (obtain ⟨s1, s2⟩ := hSw; go_simp; rfl) | (have s1 := hSw; go_simp; rfl)
  go_simp
  refine heldOne (i := 3) (by kernel_rfl) rfl (by rfl) (fun K hK => ?_)
  go_simp
  refine (HAK.out w4).mono ?_
  rintro e w' ⟨rfl, rfl⟩
  refine hK.out _ _ s4 ?_
  clear hK K
  refine heldOne (i := 6) (by kernel_rfl) rfl (by rfl) (fun K hK => ?_)
  go_simp
  refine (HAA.out w4 HN4.out).mono ?_
  rintro e w5 ⟨rfl, hn5⟩
  have HB5 := Lib.hid ((hn5.block xb (lt_of_block HB4.out) id).trans HB4.out)
  have HN5 := Lib.hid (HN4.out.trans hn5)
  have s5 := And.intro (box_cells HB5.out) ((HN5.out.cell hl id (o + 1 + a)).trans ca)
  refine hK.out _ _ s5 ?_
  clear hK K s4 hn5
  refine heldOne (i := 15) (by kernel_rfl) rfl (by rfl) (fun K hK => ?_)
  go_simp
  refine (HDO.out w5 HN5.out).mono ?_
  rintro e w6 ⟨f, rfl, hsf, hrep, hfr⟩
  have hb6 := (hfr.block xb (lt_of_block HB5.out) (fun e => by obtain ⟨_, e⟩ := e; omega)).trans HB5.out
  have f6 : Fr (fun k => k = rb ∨ k = rhb) w w6 := (HN5.out.mono (T := fun k => k = rb ∨ k = rhb) (fun _ _ h => h.elim)).trans (hfr.mono (fun _ _ h => h.2))
  have s6 := And.intro (box_cells hb6) ((f6.cell hl (fun e => by omega) (o + 1 + a)).trans ca)
  have HB6 := Lib.hid hb6
  have HSF := Lib.hid hsf
  have HREP := Lib.hid hrep
  have HF6 := Lib.hid f6
  refine hK.out _ _ s6 ?_
  clear hK K s5 hsf hrep hfr hb6 f6
  refine wpAnyH_take (i := 16) (v := ?_) rfl (by kernel_rfl) (by kernel_rfl) (by kernel_rfl) (fun _ _ _ h => h) (Or.inl ⟨by rfl, ?_⟩) s6 ?_
  rotate_left
  · intro w hSw; first | (obtain ⟨s1, s2, s3, s4, s5, s6, s7, s8⟩ := hSw; go_simp; rfl) | (obtain ⟨s1, s2, s3, s4, s5, s6, s7⟩ := hSw; go_simp; rfl) | (obtain ⟨s1, s2, s3⟩ := hSw; go_simp; rfl) | (obtain ⟨s1, s2⟩ := hSw; go_simp; rfl) | (have s1 := hSw; go_simp; rfl)
  go_simp
  refine wpAnyH_take (i := 17) (v := ?_) rfl (by kernel_rfl) (by kernel_rfl) (by kernel_rfl) (fun _ _ _ h => h) (Or.inl ⟨by rfl, ?_⟩) s6 ?_
  rotate_left
  · intro w hSw; first | (obtain ⟨s1, s2, s3, s4, s5, s6, s7, s8⟩ := hSw; go_simp; rfl) | (obtain ⟨s1, s2, s3, s4, s5, s6, s7⟩ := hSw; go_simp; rfl) | (obtain ⟨s1, s2, s3⟩ := hSw; go_simp; rfl) | (obtain ⟨s1, s2⟩ := hSw; go_simp; rfl) | (have s1 := hSw; go_simp; rfl)
  go_simp
  refine wpAnyH_take (i := 18) (v := ?_) rfl (by kernel_rfl) (by kernel_rfl) (by kernel_rfl) (fun _ _ _ h => h) (Or.inl ⟨by rfl, ?_⟩) s6 ?_
  rotate_left
  · intro w hSw; first | (obtain ⟨s1, s2, s3, s4, s5, s6, s7, s8⟩ := hSw; go_simp; rfl) | (obtain ⟨s1, s2, s3, s4, s5, s6, s7⟩ := hSw; go_simp; rfl) | (obtain ⟨s1, s2, s3⟩ := hSw; go_simp; rfl) | (obtain ⟨s1, s2⟩ := hSw; go_simp; rfl) | (have s1 := hSw; go_simp; rfl)
  go_simp
  refine wpAnyH_take (i := 19) (v := ?_) rfl (by kernel_rfl) (by kernel_rfl) (by kernel_rfl) (fun _ _ _ h => h) (Or.inl ⟨by rfl, ?_⟩) s6 ?_
  rotate_left
  · intro w hSw; first | (obtain ⟨s1, s2, s3, s4, s5, s6, s7, s8⟩ := hSw; go_simp; rfl) | (obtain ⟨s1, s2, s3, s4, s5, s6, s7⟩ := hSw; go_simp; rfl) | (obtain ⟨s1, s2, s3⟩ := hSw; go_simp; rfl) | (obtain ⟨s1, s2⟩ := hSw; go_simp; rfl) | (have s1 := hSw; go_simp; rfl)
  go_simp
  refine wpAnyH_take (i := 20) (v := ?_) rfl (by kernel_rfl) (by kernel_rfl) (by kernel_rfl) (fun _ _ _ h => h) (Or.inl ⟨by rfl, ?_⟩) s6 ?_
  rotate_left
  · intro w hSw; first | (obtain ⟨s1, s2, s3, s4, s5, s6, s7, s8⟩ := hSw; go_simp; rfl) | (obtain ⟨s1, s2, s3, s4, s5, s6, s7⟩ := hSw; go_simp; rfl) | (obtain ⟨s1, s2, s3⟩ := hSw; go_simp; rfl) | (obtain ⟨s1, s2⟩ := hSw; go_simp; rfl) | (have s1 := hSw; go_simp; rfl)
  go_simp
  refine wpAnyH_done (by kernel_rfl) ?_ _
  have hfm6 := H.out.keep HF6.out (fun e => by omega) (fun i hi e => by
    rcases e with rfl | rfl
    · exact hvp.1 hi
    · exact hvp.2 hi)
  have HFM6 := Lib.hid hfm6
  have y0 : w6.cell? ⟨xb, 0, none⟩ = some (.int .i64 18) := s6.1.1
  clear hfm6 s6
  cases oe with
  | none =>
    obtain rfl : f = .pointer none := HSF.out
    have e0 : w6.cell? ⟨fb, o, none⟩ = some (.int .i64 k) := by rw [← HPC.out]; exact HFM6.out.fr.pc
    have zf : ∀ i, w6.frozen? ⟨fb, i, none⟩ = false := HFM6.out.fr.free
    go_wp2
    go_ret2
    have f7 := Fr34.set (fb := fb) (o := o) (w := w6) (.int .i64 ((k : Int) + 1)) (Nat.le_refl _) (by omega)
    exact ⟨_, _, rfl, HFIN.out _ _ _ rfl rfl (by rw [HPC.out]; exact HFM6.out.setPc _) (HREP.out.keep f7.fr (Ne.symm hap.1) (Ne.symm hap.2.1) (Ne.symm hap.2.2)) ((HF6.out.mono (fun _ _ h => .inr h)).trans (f7.fr.mono (fun _ _ h => .inl h)))⟩
  | some x =>
    obtain ⟨q, kk⟩ := x
    obtain ⟨eb, rfl⟩ := HSF.out.at
    have e0 : w6.cell? ⟨fb, o, none⟩ = some (.int .i64 k) := by rw [← HPC.out]; exact HFM6.out.fr.pc
    go_wp2_with fail
    refine (in_any vmL k _ _ kk _ (failN_of HSF.out) (by simp)).mono ?_
    rintro e w7 ⟨f', rfl, hf7, hn7⟩
    have HFN := Lib.hid hf7
    have HREP7 := Lib.hid (HREP.out.keep hn7 id id id)
    have HFM7 := Lib.hid (HFM6.out.new hn7)
    have HF7 := Lib.hid (HF6.out.trans (hn7.mono (fun _ _ h => h.elim)))
    clear hf7 hn7 e0 y0
    go_wp2
    go_ret2
    exact ⟨_, _, rfl, HFIN.out _ _ _ rfl (by rw [HPC.out]; exact HFN.out) HFM7.out HREP7.out (HF7.out.mono (fun _ _ h => .inr h))⟩

set_option maxRecDepth 100000 in
set_option maxHeartbeats 8000000 in
theorem rstep_acc19 (a : Nat) (ha : a < 32) (h : FmAt w fb o v F) (hi : InsAt w cg co k 19 a B C V M W) (hk : k < n) (hn : n ≤ 1000000) (hV : V < 18446744073709551616) (hpc : F.pc = k) (hg : goodV 19 a B C V n = true)
    (hm : RefRep w rb rwb rhb cs ws ct) (hct : ct + 1 < 1000000000) (hap : fb ≠ rb ∧ fb ≠ rwb ∧ fb ≠ rhb) (hvp : v.ownBlock ≠ some rb ∧ v.ownBlock ≠ some rhb) :
    Calls Tryd.prog 11 #[.pointer (some ⟨fb, o, none⟩), .slice (some ⟨cg, co, none⟩) n cap, (.pointer (some ⟨rb, 0, none⟩))] w fun e w' => ∃ r er, e = .returned (.tuple #[r, er]) ∧ RAccRes w fb o rb rwb rhb v F cs ws ct 19 a B C V r er w' := by
  have c0 := h.fr.pc
  have hl := h.fr.lt
  rw [hpc] at c0
  unfold goodV at hg
  rw [show ((19 : Int) != 22) = true from rfl] at hg
  have HRT := Lib.hid (fun w' => right_any 19 a B C 0 0 V n true w' hV (by omega))
  rw [hg] at HRT
  have HI := Lib.hid hi
  obtain ⟨_, x0, x1, x2, x3, x4, x5, x6⟩ := hi
  have q1 : (0 : Int) ≤ (k : Int) := by omega
  have q2 : (k : Int) < (n : Int) := by omega
  have tk : IntKind.i64.wrap ((k : Int) + 1) = (k : Int) + 1 := IntWalk.i64_in _ (by omega)
  have H := Lib.hid h
  have HPC := Lib.hid hpc
  have q3 : (0 : Int) ≤ (a : Int) := by omega
  have q4 : (a : Int) < 32 := by omega
  have hP := adrN_fit (rs := F.rs) B hV
  have hXf := getD_fit h.fr.fits a
  have hY := accV_fit h.fr.fits 19 C a
  have ca := h.fr.regD ha
  have HAA := Lib.hid (fun w' (f : New w w') => raddress_any fb o F.pc F.rs v 19 a B C V M W w' (h.fr.new f) hV)
  have HDO := Lib.hid (fun w' (f : New w w') => rdo_any (accK 19) rb rwb rhb cs ws ct (adrN F.rs B V) (F.rs.getD a 0) (accV 19 C a F.rs) w' (by decide) (hm.keep f id id id) hct hY hXf hP)
  have HFIN := Lib.hid (fun (r er : Value) (w' : World) h1 h2 h3 h4 h5 => RAccRes.mk (w := w) (fb := fb) (o := o) (rb := rb) (rwb := rwb) (rhb := rhb) (v := v) (F := F) (cs := cs) (ws := ws) (ct := ct) (op := 19) (a := a) (B := B) (C := C) (V := V) (r := r) (er := er) (w' := w') h1 h2 h3 h4 h5)
  obtain ⟨hm1, hm2, hm3⟩ := show rb < w.heap.size ∧ rwb < w.heap.size ∧ rhb < w.heap.size from ⟨hm.hd.lt, hm.widths.lt, hm.holds.lt⟩
  have HAK := Lib.hid (fun w' => raccK_any 19 w' (by omega))
  have hZ := RaccVal_fit hm (adrN F.rs B V)
  have hYX : accV 19 C a F.rs = F.rs.getD a 0 := rfl
  generalize accV 19 C a F.rs = Y at HDO HFIN hY hYX
  generalize accCs (accK 19) cs ws (adrN F.rs B V) (F.rs.getD a 0) Y = cs' at HDO HFIN
  generalize accN ws (adrN F.rs B V) ct = ct' at HDO HFIN
  generalize accErr ws (adrN F.rs B V) = oe at HDO HFIN
  generalize accK 19 = K0 at HDO HAK
  generalize adrN F.rs B V = P at HAA HDO HFIN hP hZ
  rw [show accY 19 a F.rs cs ws P = accVal cs ws P from rfl] at HFIN
  generalize accVal cs ws P = Z at HDO hZ HFIN
  subst hYX
  generalize F.rs.getD a 0 = X at HDO hXf ca
  clear h hg hpc hm
  go_enter Tryd.func11, Tryd.ntmps11
  go_wp2_with fail
  obtain ⟨W0, hW0⟩ : ∃ W0, (w.alloc (.cells #[.int .i64 19, .int .i64 a, .int .i64 B, .int .i64 C, .int .u64 V, .int .i64 M, .int .i64 W] 52)).alloc (.cells #[.int .i64 19, .int .i64 a, .int .i64 B, .int .i64 C, .int .u64 V, .int .i64 0, .int .i64 0] 52) = W0 := ⟨_, rfl⟩
  have hn0 : New w W0 := by rw [← hW0]; exact ((Fr.refl _ _).alloc _).alloc _
  have hb0 : W0.heap[w.heap.size]? = some (.cells #[.int .i64 19, .int .i64 a, .int .i64 B, .int .i64 C, .int .u64 V, .int .i64 M, .int .i64 W] 52 (0, 0)) := by rw [← hW0, block_alloc (by simp)]; exact block_alloc_new _ _
  rw [hW0]
  obtain ⟨xb, hxb⟩ : ∃ xb, w.heap.size = xb := ⟨_, rfl⟩
  have hxf : fb < xb := by omega
  rw [hxb] at hb0 ⊢
  refine (HRT.out _).mono ?_
  rintro e w1 ⟨rfl, hn1⟩
  have hb1 := (hn1.block xb (lt_of_block hb0) id).trans hb0
  have HB1 := Lib.hid hb1
  have HN1 := Lib.hid (hn0.trans hn1)
  have hx1 := lt_of_block hb1
  obtain ⟨y0, y1, y2, y3, y4, y5, y6⟩ := box_cells hb1
  have d0 := (HN1.out.cell hl id o).trans c0
  have zf : ∀ i, w1.frozen? ⟨fb, i, none⟩ = false := fun i => (HN1.out.frozen hl id i).trans (H.out.fr.free i)
  clear hW0 hn0 hb0 hn1 hb1 c0 x0 x1 x2 x3 x4 x5 x6 HRT HI
  have da := (HN1.out.cell hl id _).trans ca
  go_wp2_with fail
  go_quiet (fail)
  have n2 : New w1 (w1.drewN nq) := (Fr.refl _ _).drewN nq
  have HB2 := Lib.hid ((n2.block xb (lt_of_block HB1.out) id).trans HB1.out)
  have HN2 := Lib.hid (HN1.out.trans n2)
  generalize w1.drewN nq = w2 at n2 HB2 HN2 ⊢
  clear y0 y1 y2 y3 y4 y5 y6 da n2
  obtain ⟨y0, y1, y2, y3, y4, y5, y6⟩ := box_cells HB2.out
  have da := (HN2.out.cell hl id _).trans ca
  clear d0 zf
  go_wp2_with fail
  have n4 : New w2 w2.drew := (Fr.refl _ _).drew
  have HB4 := Lib.hid ((n4.block xb (lt_of_block HB2.out) id).trans HB2.out)
  have HN4 := Lib.hid (HN2.out.trans n4)
  refine heldStart (fun wz => (wz.cell? ⟨xb, 0, none⟩ = some (.int .i64 19) ∧ wz.cell? ⟨xb, 1, none⟩ = some (.int .i64 a) ∧ wz.cell? ⟨xb, 2, none⟩ = some (.int .i64 B) ∧ wz.cell? ⟨xb, 3, none⟩ = some (.int .i64 C) ∧ wz.cell? ⟨xb, 4, none⟩ = some (.int .u64 V) ∧ wz.cell? ⟨xb, 5, none⟩ = some (.int .i64 M) ∧ wz.cell? ⟨xb, 6, none⟩ = some (.int .i64 W)) ∧ wz.cell? ⟨fb, o + 1 + a, none⟩ = some (.int .u64 X)) (by kernel_rfl) ?_
  generalize w2.drew = w4 at n4 HB4 HN4 ⊢
  have s4 := And.intro (box_cells HB4.out) ((HN4.out.cell hl id (o + 1 + a)).trans ca)
  clear y0 y1 y2 y3 y4 y5 y6 da n4
  refine wpAnyH_take (i := 0) (v := ?_) rfl (by kernel_rfl) (by kernel_rfl) (by kernel_rfl) (fun _ _ _ h => h) (Or.inl ⟨by rfl, ?_⟩) s4 ?_
  rotate_left
  · intro w hSw; first | (obtain ⟨s1, s2, s3, s4, s5, s6, s7, s8⟩ := hSw; go_simp; rfl) | (obtain ⟨s1, s2, s3, s4, s5, s6, s7⟩ := hSw; go_simp; rfl) | (obtain ⟨s1, s2, s3⟩ := hSw; go_simp; rfl) | (obtain ⟨s1, s2⟩ := hSw; go_simp; rfl) | (have s1 := hSw; go_simp; rfl)
  go_simp
  refine wpAnyH_take (i := 1) (v := ?_) rfl (by kernel_rfl) (by kernel_rfl) (by kernel_rfl) (fun _ _ _ h => h) (Or.inl ⟨by rfl, ?_⟩) s4 ?_
  rotate_left
  · intro w hSw; first | (obtain ⟨s1, s2, s3, s4, s5, s6, s7, s8⟩ := hSw; go_simp; rfl) | (obtain ⟨s1, s2, s3, s4, s5, s6, s7⟩ := hSw; go_simp; rfl) | (obtain ⟨s1, s2, s3⟩ := hSw; go_simp; rfl) | (obtain ⟨s1, s2⟩ := hSw; go_simp; rfl) | (have s1 := hSw; go_simp; rfl)
  go_simp
  refine wpAnyH_take (i := 2) (v := ?_) rfl (by kernel_rfl) (by kernel_rfl) (by kernel_rfl) (fun _ _ _ h => h) (Or.inl ⟨by rfl, ?_⟩) s4 ?_
  rotate_left
  · intro w hSw; first | (obtain ⟨s1, s2, s3, s4, s5, s6, s7, s8⟩ := hSw; go_simp; rfl) | (obtain ⟨s1, s2, s3, s4, s5, s6, s7⟩ := hSw; go_simp; rfl) | (obtain ⟨s1, s2, s3⟩ := hSw; go_simp; rfl) | (obtain ⟨s1, s2⟩ := hSw; go_simp; rfl) | (have s1 := hSw; go_simp; rfl)
  go_simp
  refine wpAnyH_take (i := 4) (v := ?_) rfl (by kernel_rfl) (by kernel_rfl) (by kernel_rfl) (fun _ _ _ h => h) (Or.inl ⟨by rfl, ?_⟩) s4 ?_
  rotate_left
  · intro w hSw; first | (obtain ⟨s1, s2, s3, s4, s5, s6, s7, s8⟩ := hSw; go_simp; rfl) | (obtain ⟨s1, s2, s3, s4, s5, s6, s7⟩ := hSw; go_simp; rfl) | (obtain ⟨s1, s2, s3⟩ := hSw; go_simp; rfl) | (obtain ⟨s1, s2⟩ := hSw; go_simp; rfl) | (have s1 := hSw; go_simp; rfl)
  go_simp
  refine wpAnyH_take (i := 5) (v := ?_) rfl (by kernel_rfl) (by kernel_rfl) (by kernel_rfl) (fun _ _ _ h => h) (Or.inl ⟨by rfl, ?_⟩) s4 ?_
  rotate_left
  · intro w hSw; first | (obtain ⟨s1, s2, s3, s4, s5, s6, s7, s8⟩ := hSw; go_simp; rfl) | (obtain ⟨s1, s2, s3, s4, s5, s6, s7⟩ := hSw; go_simp; rfl) | (obtain ⟨s1, s2, s3⟩ := hSw; go_simp; rfl) | (obtain ⟨s1, s2⟩ := hSw; go_simp; rfl) | (have s1 := hSw; go_simp; rfl)
  go_simp
  refine wpAnyH_take (i := 7) (v := ?_) rfl (by kernel_rfl) (by kernel_rfl) (by kernel_rfl) (fun _ _ _ h => h) (Or.inl ⟨by rfl, ?_⟩) s4 ?_
  rotate_left
  · intro w hSw; first | (obtain ⟨s1, s2, s3, s4, s5, s6, s7, s8⟩ := hSw; go_simp; rfl) | (obtain ⟨s1, s2, s3, s4, s5, s6, s7⟩ := hSw; go_simp; rfl) | (obtain ⟨s1, s2, s3⟩ := hSw; go_simp; rfl) | (obtain ⟨s1, s2⟩ := hSw; go_simp; rfl) | (have s1 := hSw; go_simp; rfl)
  go_simp
  refine wpAnyH_take (i := 8) (v := ?_) rfl (by kernel_rfl) (by kernel_rfl) (by kernel_rfl) (fun _ _ _ h => h) (Or.inl ⟨by rfl, ?_⟩) s4 ?_
  rotate_left
  · intro w hSw; first | (obtain ⟨s1, s2, s3, s4, s5, s6, s7, s8⟩ := hSw; go_simp; rfl) | (obtain ⟨s1, s2, s3, s4, s5, s6, s7⟩ := hSw; go_simp; rfl) | (obtain ⟨s1, s2, s3⟩ := hSw; go_simp; rfl) | (obtain ⟨s1, s2⟩ := hSw; go_simp; rfl) | (have s1 := hSw; go_simp; rfl)
  go_simp
  refine wpAnyH_take (i := 9) (v := ?_) rfl (by kernel_rfl) (by kernel_rfl) (by kernel_rfl) (fun _ _ _ h => h) (Or.inl ⟨by rfl, ?_⟩) s4 ?_
  rotate_left
  · intro w hSw; first | (obtain ⟨s1, s2, s3, s4, s5, s6, s7, s8⟩ := hSw; go_simp; rfl) | (obtain ⟨s1, s2, s3, s4, s5, s6, s7⟩ := hSw; go_simp; rfl) | (obtain ⟨s1, s2, s3⟩ := hSw; go_simp; rfl) | (obtain ⟨s1, s2⟩ := hSw; go_simp; rfl) | (have s1 := hSw; go_simp; rfl)
  go_simp
  refine wpAnyH_take (i := 10) (v := ?_) rfl (by kernel_rfl) (by kernel_rfl) (by kernel_rfl) (fun _ _ _ h => h) (Or.inl ⟨by rfl, ?_⟩) s4 ?_
  rotate_left
  · intro w hSw; first | (obtain ⟨s1, s2, s3, s4, s5, s6, s7, s8⟩ := hSw; go_simp; rfl) | (obtain ⟨s1, s2, s3, s4, s5, s6, s7⟩ := hSw; go_simp; rfl) | (obtain ⟨s1, s2, s3⟩ := hSw; go_simp; rfl) | (obtain ⟨s1, s2⟩ := hSw; go_simp; rfl) | (have s1 := hSw; go_simp; rfl)
  go_simp
  refine wpAnyH_take (i := 11) (v := ?_) rfl (by kernel_rfl) (by kernel_rfl) (by kernel_rfl) (fun _ _ _ h => h) (Or.inl ⟨by rfl, ?_⟩) s4 ?_
  rotate_left
  · intro w hSw; first | (obtain ⟨s1, s2, s3, s4, s5, s6, s7, s8⟩ := hSw; go_simp; rfl) | (obtain ⟨s1, s2, s3, s4, s5, s6, s7⟩ := hSw; go_simp; rfl) | (obtain ⟨s1, s2, s3⟩ := hSw; go_simp; rfl) | (obtain ⟨s1, s2⟩ := hSw; go_simp; rfl) | (have s1 := hSw; go_simp; rfl)
  go_simp
  refine wpAnyH_take (i := 12) (v := ?_) rfl (by kernel_rfl) (by kernel_rfl) (by kernel_rfl) (fun _ _ _ h => h) (Or.inl ⟨by rfl, ?_⟩) s4 ?_
  rotate_left
  · intro w hSw; first | (obtain ⟨s1, s2, s3, s4, s5, s6, s7, s8⟩ := hSw; go_simp; rfl) | (obtain ⟨s1, s2, s3, s4, s5, s6, s7⟩ := hSw; go_simp; rfl) | (obtain ⟨s1, s2, s3⟩ := hSw; go_simp; rfl) | (obtain ⟨s1, s2⟩ := hSw; go_simp; rfl) | (have s1 := hSw; go_simp; rfl)
  go_simp
  refine wpAnyH_take (i := 13) (v := ?_) rfl (by kernel_rfl) (by kernel_rfl) (by kernel_rfl) (fun _ _ _ h => h) (Or.inl ⟨by rfl, ?_⟩) s4 ?_
  rotate_left
  · intro w hSw; first | (obtain ⟨s1, s2, s3, s4, s5, s6, s7, s8⟩ := hSw; go_simp; rfl) | (obtain ⟨s1, s2, s3, s4, s5, s6, s7⟩ := hSw; go_simp; rfl) | (obtain ⟨s1, s2, s3⟩ := hSw; go_simp; rfl) | (obtain ⟨s1, s2⟩ := hSw; go_simp; rfl) | (have s1 := hSw; go_simp; rfl)
  go_simp
  refine wpAnyH_take (i := 14) (v := ?_) rfl (by kernel_rfl) (by kernel_rfl) (by kernel_rfl) (fun _ _ _ h => h) (Or.inl ⟨by rfl, ?_⟩) s4 ?_
  rotate_left
  · intro w hSw; first | (obtain ⟨s1, s2, s3, s4, s5, s6, s7, s8⟩ := hSw; go_simp; rfl) | (obtain ⟨s1, s2, s3, s4, s5, s6, s7⟩ := hSw; go_simp; rfl) | (obtain ⟨s1, s2, s3⟩ := hSw; go_simp; rfl) | (obtain ⟨s1, s2⟩ := hSw; go_simp; rfl) | (have s1 := hSw; go_simp; rfl)
  go_simp
  refine heldOne (i := 3) (by kernel_rfl) rfl (by rfl) (fun K hK => ?_)
  go_simp
  refine (HAK.out w4).mono ?_
  rintro e w' ⟨rfl, rfl⟩
  refine hK.out _ _ s4 ?_
  clear hK K
  refine heldOne (i := 6) (by kernel_rfl) rfl (by rfl) (fun K hK => ?_)
  go_simp
  refine (HAA.out w4 HN4.out).mono ?_
  rintro e w5 ⟨rfl, hn5⟩
  have HB5 := Lib.hid ((hn5.block xb (lt_of_block HB4.out) id).trans HB4.out)
  have HN5 := Lib.hid (HN4.out.trans hn5)
  have s5 := And.intro (box_cells HB5.out) ((HN5.out.cell hl id (o + 1 + a)).trans ca)
  refine hK.out _ _ s5 ?_
  clear hK K s4 hn5
  refine heldOne (i := 15) (by kernel_rfl) rfl (by rfl) (fun K hK => ?_)
  go_simp
  refine (HDO.out w5 HN5.out).mono ?_
  rintro e w6 ⟨f, rfl, hsf, hrep, hfr⟩
  have hb6 := (hfr.block xb (lt_of_block HB5.out) (fun e => by obtain ⟨_, e⟩ := e; omega)).trans HB5.out
  have f6 : Fr (fun k => k = rb ∨ k = rhb) w w6 := (HN5.out.mono (T := fun k => k = rb ∨ k = rhb) (fun _ _ h => h.elim)).trans (hfr.mono (fun _ _ h => h.2))
  have s6 := And.intro (box_cells hb6) ((f6.cell hl (fun e => by omega) (o + 1 + a)).trans ca)
  have HB6 := Lib.hid hb6
  have HSF := Lib.hid hsf
  have HREP := Lib.hid hrep
  have HF6 := Lib.hid f6
  refine hK.out _ _ s6 ?_
  clear hK K s5 hsf hrep hfr hb6 f6
  refine wpAnyH_take (i := 16) (v := ?_) rfl (by kernel_rfl) (by kernel_rfl) (by kernel_rfl) (fun _ _ _ h => h) (Or.inl ⟨by rfl, ?_⟩) s6 ?_
  rotate_left
  · intro w hSw; first | (obtain ⟨s1, s2, s3, s4, s5, s6, s7, s8⟩ := hSw; go_simp; rfl) | (obtain ⟨s1, s2, s3, s4, s5, s6, s7⟩ := hSw; go_simp; rfl) | (obtain ⟨s1, s2, s3⟩ := hSw; go_simp; rfl) | (obtain ⟨s1, s2⟩ := hSw; go_simp; rfl) | (have s1 := hSw; go_simp; rfl)
  go_simp
  refine wpAnyH_take (i := 17) (v := ?_) rfl (by kernel_rfl) (by kernel_rfl) (by kernel_rfl) (fun _ _ _ h => h) (Or.inl ⟨by rfl, ?_⟩) s6 ?_
  rotate_left
  · intro w hSw; first | (obtain ⟨s1, s2, s3, s4, s5, s6, s7, s8⟩ := hSw; go_simp; rfl) | (obtain ⟨s1, s2, s3, s4, s5, s6, s7⟩ := hSw; go_simp; rfl) | (obtain ⟨s1, s2, s3⟩ := hSw; go_simp; rfl) | (obtain ⟨s1, s2⟩ := hSw; go_simp; rfl) | (have s1 := hSw; go_simp; rfl)
  go_simp
  refine wpAnyH_take (i := 18) (v := ?_) rfl (by kernel_rfl) (by kernel_rfl) (by kernel_rfl) (fun _ _ _ h => h) (Or.inl ⟨by rfl, ?_⟩) s6 ?_
  rotate_left
  · intro w hSw; first | (obtain ⟨s1, s2, s3, s4, s5, s6, s7, s8⟩ := hSw; go_simp; rfl) | (obtain ⟨s1, s2, s3, s4, s5, s6, s7⟩ := hSw; go_simp; rfl) | (obtain ⟨s1, s2, s3⟩ := hSw; go_simp; rfl) | (obtain ⟨s1, s2⟩ := hSw; go_simp; rfl) | (have s1 := hSw; go_simp; rfl)
  go_simp
  refine wpAnyH_take (i := 19) (v := ?_) rfl (by kernel_rfl) (by kernel_rfl) (by kernel_rfl) (fun _ _ _ h => h) (Or.inl ⟨by rfl, ?_⟩) s6 ?_
  rotate_left
  · intro w hSw; first | (obtain ⟨s1, s2, s3, s4, s5, s6, s7, s8⟩ := hSw; go_simp; rfl) | (obtain ⟨s1, s2, s3, s4, s5, s6, s7⟩ := hSw; go_simp; rfl) | (obtain ⟨s1, s2, s3⟩ := hSw; go_simp; rfl) | (obtain ⟨s1, s2⟩ := hSw; go_simp; rfl) | (have s1 := hSw; go_simp; rfl)
  go_simp
  refine wpAnyH_take (i := 20) (v := ?_) rfl (by kernel_rfl) (by kernel_rfl) (by kernel_rfl) (fun _ _ _ h => h) (Or.inl ⟨by rfl, ?_⟩) s6 ?_
  rotate_left
  · intro w hSw; first | (obtain ⟨s1, s2, s3, s4, s5, s6, s7, s8⟩ := hSw; go_simp; rfl) | (obtain ⟨s1, s2, s3, s4, s5, s6, s7⟩ := hSw; go_simp; rfl) | (obtain ⟨s1, s2, s3⟩ := hSw; go_simp; rfl) | (obtain ⟨s1, s2⟩ := hSw; go_simp; rfl) | (have s1 := hSw; go_simp; rfl)
  go_simp
  refine wpAnyH_done (by kernel_rfl) ?_ _
  have hfm6 := H.out.keep HF6.out (fun e => by omega) (fun i hi e => by
    rcases e with rfl | rfl
    · exact hvp.1 hi
    · exact hvp.2 hi)
  have HFM6 := Lib.hid hfm6
  have y0 : w6.cell? ⟨xb, 0, none⟩ = some (.int .i64 19) := s6.1.1
  clear hfm6 s6
  cases oe with
  | none =>
    obtain rfl : f = .pointer none := HSF.out
    go_wp2_with fail
    have n7 : New w6 w6.drew := (Fr.refl _ _).drew
    have HB7 := Lib.hid ((n7.block xb (lt_of_block HB6.out) id).trans HB6.out)
    have HFM7 := Lib.hid (HFM6.out.new n7)
    have HREP7 := Lib.hid (HREP.out.keep n7 id id id)
    have HF7 := Lib.hid (HF6.out.trans (n7.mono (fun _ _ h => h.elim)))
    refine heldStart (fun wz => wz.cell? ⟨xb, 1, none⟩ = some (.int .i64 a)) (by kernel_rfl) ?_
    generalize w6.drew = w7 at n7 HB7 HFM7 HREP7 HF7 ⊢
    have s7 : w7.cell? ⟨xb, 1, none⟩ = some (.int .i64 a) := cell_of_block HB7.out 1
    clear y0 n7
    refine wpAnyH_take (i := 0) (v := ?_) rfl (by kernel_rfl) (by kernel_rfl) (by kernel_rfl) (fun _ _ _ h => h) (Or.inl ⟨by rfl, ?_⟩) s7 ?_
    rotate_left
    · intro w hSw; first | (obtain ⟨s1, s2, s3, s4, s5, s6, s7, s8⟩ := hSw; go_simp; rfl) | (obtain ⟨s1, s2, s3, s4, s5, s6, s7⟩ := hSw; go_simp; rfl) | (obtain ⟨s1, s2, s3⟩ := hSw; go_simp; rfl) | (obtain ⟨s1, s2⟩ := hSw; go_simp; rfl) | (have s1 := hSw; go_simp; rfl)
    go_simp
    refine wpAnyH_take (i := 1) (v := ?_) rfl (by kernel_rfl) (by kernel_rfl) (by kernel_rfl) (fun _ _ _ h => h) (Or.inl ⟨by rfl, ?_⟩) s7 ?_
    rotate_left
    · intro w hSw; first | (obtain ⟨s1, s2, s3, s4, s5, s6, s7, s8⟩ := hSw; go_simp; rfl) | (obtain ⟨s1, s2, s3, s4, s5, s6, s7⟩ := hSw; go_simp; rfl) | (obtain ⟨s1, s2, s3⟩ := hSw; go_simp; rfl) | (obtain ⟨s1, s2⟩ := hSw; go_simp; rfl) | (have s1 := hSw; go_simp; rfl)
    go_simp
    refine wpAnyH_take (i := 2) (v := ?_) rfl (by kernel_rfl) (by kernel_rfl) (by kernel_rfl) (fun _ _ _ h => h) (Or.inl ⟨by rfl, ?_⟩) s7 ?_
    rotate_left
    · intro w hSw; first | (obtain ⟨s1, s2, s3, s4, s5, s6, s7, s8⟩ := hSw; go_simp; rfl) | (obtain ⟨s1, s2, s3, s4, s5, s6, s7⟩ := hSw; go_simp; rfl) | (obtain ⟨s1, s2, s3⟩ := hSw; go_simp; rfl) | (obtain ⟨s1, s2⟩ := hSw; go_simp; rfl) | (have s1 := hSw; go_simp; rfl)
    go_simp
    refine wpAnyH_take (i := 3) (v := ?_) rfl (by kernel_rfl) (by kernel_rfl) (by kernel_rfl) (fun _ _ _ h => h) (Or.inl ⟨by rfl, ?_⟩) s7 ?_
    rotate_left
    · intro w hSw; first | (obtain ⟨s1, s2, s3, s4, s5, s6, s7, s8⟩ := hSw; go_simp; rfl) | (obtain ⟨s1, s2, s3, s4, s5, s6, s7⟩ := hSw; go_simp; rfl) | (obtain ⟨s1, s2, s3⟩ := hSw; go_simp; rfl) | (obtain ⟨s1, s2⟩ := hSw; go_simp; rfl) | (have s1 := hSw; go_simp; rfl)
    go_simp
    refine wpAnyH_take (i := 4) (v := ?_) rfl (by kernel_rfl) (by kernel_rfl) (by kernel_rfl) (fun _ _ _ h => h) (Or.inl ⟨by rfl, ?_⟩) s7 ?_
    rotate_left
    · intro w hSw; first | (obtain ⟨s1, s2, s3, s4, s5, s6, s7, s8⟩ := hSw; go_simp; rfl) | (obtain ⟨s1, s2, s3, s4, s5, s6, s7⟩ := hSw; go_simp; rfl) | (obtain ⟨s1, s2, s3⟩ := hSw; go_simp; rfl) | (obtain ⟨s1, s2⟩ := hSw; go_simp; rfl) | (have s1 := hSw; go_simp; rfl)
    go_simp
    refine wpAnyH_take (i := 5) (v := ?_) rfl (by kernel_rfl) (by kernel_rfl) (by kernel_rfl) (fun _ _ _ h => h) (Or.inl ⟨by rfl, ?_⟩) s7 ?_
    rotate_left
    · intro w hSw; first | (obtain ⟨s1, s2, s3, s4, s5, s6, s7, s8⟩ := hSw; go_simp; rfl) | (obtain ⟨s1, s2, s3, s4, s5, s6, s7⟩ := hSw; go_simp; rfl) | (obtain ⟨s1, s2, s3⟩ := hSw; go_simp; rfl) | (obtain ⟨s1, s2⟩ := hSw; go_simp; rfl) | (have s1 := hSw; go_simp; rfl)
    go_simp
    refine wpAnyH_take (i := 6) (v := ?_) rfl (by kernel_rfl) (by kernel_rfl) (by kernel_rfl) (fun _ _ _ h => h) (Or.inl ⟨by rfl, ?_⟩) s7 ?_
    rotate_left
    · intro w hSw; first | (obtain ⟨s1, s2, s3, s4, s5, s6, s7, s8⟩ := hSw; go_simp; rfl) | (obtain ⟨s1, s2, s3, s4, s5, s6, s7⟩ := hSw; go_simp; rfl) | (obtain ⟨s1, s2, s3⟩ := hSw; go_simp; rfl) | (obtain ⟨s1, s2⟩ := hSw; go_simp; rfl) | (have s1 := hSw; go_simp; rfl)
    go_simp
    refine heldOne (i := 7) (by kernel_rfl) rfl (by rfl) (fun K hK => ?_)
    have ya := HFM7.out.fr.regD ha
    have yz := HFM7.out.fr.free
    go_simp
    have f8 := Fr34.set (fb := fb) (o := o) (w := w7) (i := o + 1 + a) (.int .u64 (Z : Nat)) (by omega) (by omega)
    have HFM8 := Lib.hid (HFM7.out.setReg ha hZ)
    have HREP8 := Lib.hid (HREP7.out.keep f8.fr (Ne.symm hap.1) (Ne.symm hap.2.1) (Ne.symm hap.2.2))
    have HF8 := Lib.hid ((HF7.out.mono (T := fun k => k = fb ∨ k = rb ∨ k = rhb) (fun _ _ h => .inr h)).trans (f8.fr.mono (fun _ _ h => .inl h)))
    have s8 : (w7.setCell ⟨fb, o + 1 + a, none⟩ (.int .u64 (Z : Nat))).cell? ⟨xb, 1, none⟩ = some (.int .i64 a) := by rw [cell_set_ne _ (.inl (by omega))]; exact s7
    refine hK.out _ _ s8 ?_
    clear hK K ya yz s7 f8
    refine wpAnyH_done (by kernel_rfl) ?_ _
    generalize w7.setCell ⟨fb, o + 1 + a, none⟩ (.int .u64 (Z : Nat)) = w8 at HFM8 HREP8 HF8 s8 ⊢
    have e0 : w8.cell? ⟨fb, o, none⟩ = some (.int .i64 k) := by rw [← HPC.out]; exact HFM8.out.fr.pc
    have zf : ∀ i, w8.frozen? ⟨fb, i, none⟩ = false := HFM8.out.fr.free
    clear s8
    go_wp2
    go_ret2
    have f9 := Fr34.set (fb := fb) (o := o) (w := w8) (.int .i64 ((k : Int) + 1)) (Nat.le_refl _) (by omega)
    exact ⟨_, _, rfl, HFIN.out _ _ _ rfl rfl (by rw [HPC.out]; exact HFM8.out.setPc _) (HREP8.out.keep f9.fr (Ne.symm hap.1) (Ne.symm hap.2.1) (Ne.symm hap.2.2)) (HF8.out.trans (f9.fr.mono (fun _ _ h => .inl h)))⟩
  | some x =>
    obtain ⟨q, kk⟩ := x
    obtain ⟨eb, rfl⟩ := HSF.out.at
    have e0 : w6.cell? ⟨fb, o, none⟩ = some (.int .i64 k) := by rw [← HPC.out]; exact HFM6.out.fr.pc
    go_wp2_with fail
    refine (in_any vmL k _ _ kk _ (failN_of HSF.out) (by simp)).mono ?_
    rintro e w7 ⟨f', rfl, hf7, hn7⟩
    have HFN := Lib.hid hf7
    have HREP7 := Lib.hid (HREP.out.keep hn7 id id id)
    have HFM7 := Lib.hid (HFM6.out.new hn7)
    have HF7 := Lib.hid (HF6.out.trans (hn7.mono (fun _ _ h => h.elim)))
    clear hf7 hn7 e0 y0
    go_wp2
    go_ret2
    exact ⟨_, _, rfl, HFIN.out _ _ _ rfl (by rw [HPC.out]; exact HFN.out) HFM7.out HREP7.out (HF7.out.mono (fun _ _ h => .inr h))⟩

set_option maxRecDepth 100000 in
set_option maxHeartbeats 8000000 in
theorem rstep_acc20 (a : Nat) (ha : a < 32) (h : FmAt w fb o v F) (hi : InsAt w cg co k 20 a B C V M W) (hk : k < n) (hn : n ≤ 1000000) (hV : V < 18446744073709551616) (hpc : F.pc = k) (hg : goodV 20 a B C V n = true)
    (hm : RefRep w rb rwb rhb cs ws ct) (hct : ct + 1 < 1000000000) (hap : fb ≠ rb ∧ fb ≠ rwb ∧ fb ≠ rhb) (hvp : v.ownBlock ≠ some rb ∧ v.ownBlock ≠ some rhb) :
    Calls Tryd.prog 11 #[.pointer (some ⟨fb, o, none⟩), .slice (some ⟨cg, co, none⟩) n cap, (.pointer (some ⟨rb, 0, none⟩))] w fun e w' => ∃ r er, e = .returned (.tuple #[r, er]) ∧ RAccRes w fb o rb rwb rhb v F cs ws ct 20 a B C V r er w' := by
  have c0 := h.fr.pc
  have hl := h.fr.lt
  rw [hpc] at c0
  unfold goodV at hg
  rw [show ((20 : Int) != 22) = true from rfl] at hg
  have HRT := Lib.hid (fun w' => right_any 20 a B C 0 0 V n true w' hV (by omega))
  rw [hg] at HRT
  have HI := Lib.hid hi
  obtain ⟨_, x0, x1, x2, x3, x4, x5, x6⟩ := hi
  have q1 : (0 : Int) ≤ (k : Int) := by omega
  have q2 : (k : Int) < (n : Int) := by omega
  have tk : IntKind.i64.wrap ((k : Int) + 1) = (k : Int) + 1 := IntWalk.i64_in _ (by omega)
  have H := Lib.hid h
  have HPC := Lib.hid hpc
  have q3 : (0 : Int) ≤ (a : Int) := by omega
  have q4 : (a : Int) < 32 := by omega
  have hP := adrN_fit (rs := F.rs) B hV
  have hXf := getD_fit h.fr.fits a
  have hY := accV_fit h.fr.fits 20 C a
  have ca := h.fr.regD ha
  have HAA := Lib.hid (fun w' (f : New w w') => raddress_any fb o F.pc F.rs v 20 a B C V M W w' (h.fr.new f) hV)
  have HDO := Lib.hid (fun w' (f : New w w') => rdo_any (accK 20) rb rwb rhb cs ws ct (adrN F.rs B V) (F.rs.getD a 0) (accV 20 C a F.rs) w' (by decide) (hm.keep f id id id) hct hY hXf hP)
  have HFIN := Lib.hid (fun (r er : Value) (w' : World) h1 h2 h3 h4 h5 => RAccRes.mk (w := w) (fb := fb) (o := o) (rb := rb) (rwb := rwb) (rhb := rhb) (v := v) (F := F) (cs := cs) (ws := ws) (ct := ct) (op := 20) (a := a) (B := B) (C := C) (V := V) (r := r) (er := er) (w' := w') h1 h2 h3 h4 h5)
  obtain ⟨hm1, hm2, hm3⟩ := show rb < w.heap.size ∧ rwb < w.heap.size ∧ rhb < w.heap.size from ⟨hm.hd.lt, hm.widths.lt, hm.holds.lt⟩
  have HAK := Lib.hid (fun w' => raccK_any 20 w' (by omega))
  have hZ := RaccVal_fit hm (adrN F.rs B V)
  have hYX : accV 20 C a F.rs = F.rs.getD a 0 := rfl
  generalize accV 20 C a F.rs = Y at HDO HFIN hY hYX
  generalize accCs (accK 20) cs ws (adrN F.rs B V) (F.rs.getD a 0) Y = cs' at HDO HFIN
  generalize accN ws (adrN F.rs B V) ct = ct' at HDO HFIN
  generalize accErr ws (adrN F.rs B V) = oe at HDO HFIN
  generalize accK 20 = K0 at HDO HAK
  generalize adrN F.rs B V = P at HAA HDO HFIN hP hZ
  rw [show accY 20 a F.rs cs ws P = accVal cs ws P from rfl] at HFIN
  generalize accVal cs ws P = Z at HDO hZ HFIN
  subst hYX
  generalize F.rs.getD a 0 = X at HDO hXf ca
  clear h hg hpc hm
  go_enter Tryd.func11, Tryd.ntmps11
  go_wp2_with fail
  obtain ⟨W0, hW0⟩ : ∃ W0, (w.alloc (.cells #[.int .i64 20, .int .i64 a, .int .i64 B, .int .i64 C, .int .u64 V, .int .i64 M, .int .i64 W] 52)).alloc (.cells #[.int .i64 20, .int .i64 a, .int .i64 B, .int .i64 C, .int .u64 V, .int .i64 0, .int .i64 0] 52) = W0 := ⟨_, rfl⟩
  have hn0 : New w W0 := by rw [← hW0]; exact ((Fr.refl _ _).alloc _).alloc _
  have hb0 : W0.heap[w.heap.size]? = some (.cells #[.int .i64 20, .int .i64 a, .int .i64 B, .int .i64 C, .int .u64 V, .int .i64 M, .int .i64 W] 52 (0, 0)) := by rw [← hW0, block_alloc (by simp)]; exact block_alloc_new _ _
  rw [hW0]
  obtain ⟨xb, hxb⟩ : ∃ xb, w.heap.size = xb := ⟨_, rfl⟩
  have hxf : fb < xb := by omega
  rw [hxb] at hb0 ⊢
  refine (HRT.out _).mono ?_
  rintro e w1 ⟨rfl, hn1⟩
  have hb1 := (hn1.block xb (lt_of_block hb0) id).trans hb0
  have HB1 := Lib.hid hb1
  have HN1 := Lib.hid (hn0.trans hn1)
  have hx1 := lt_of_block hb1
  obtain ⟨y0, y1, y2, y3, y4, y5, y6⟩ := box_cells hb1
  have d0 := (HN1.out.cell hl id o).trans c0
  have zf : ∀ i, w1.frozen? ⟨fb, i, none⟩ = false := fun i => (HN1.out.frozen hl id i).trans (H.out.fr.free i)
  clear hW0 hn0 hb0 hn1 hb1 c0 x0 x1 x2 x3 x4 x5 x6 HRT HI
  have da := (HN1.out.cell hl id _).trans ca
  go_wp2_with fail
  go_quiet (fail)
  have n2 : New w1 (w1.drewN nq) := (Fr.refl _ _).drewN nq
  have HB2 := Lib.hid ((n2.block xb (lt_of_block HB1.out) id).trans HB1.out)
  have HN2 := Lib.hid (HN1.out.trans n2)
  generalize w1.drewN nq = w2 at n2 HB2 HN2 ⊢
  clear y0 y1 y2 y3 y4 y5 y6 da n2
  obtain ⟨y0, y1, y2, y3, y4, y5, y6⟩ := box_cells HB2.out
  have da := (HN2.out.cell hl id _).trans ca
  clear d0 zf
  go_wp2_with fail
  have n4 : New w2 w2.drew := (Fr.refl _ _).drew
  have HB4 := Lib.hid ((n4.block xb (lt_of_block HB2.out) id).trans HB2.out)
  have HN4 := Lib.hid (HN2.out.trans n4)
  refine heldStart (fun wz => (wz.cell? ⟨xb, 0, none⟩ = some (.int .i64 20) ∧ wz.cell? ⟨xb, 1, none⟩ = some (.int .i64 a) ∧ wz.cell? ⟨xb, 2, none⟩ = some (.int .i64 B) ∧ wz.cell? ⟨xb, 3, none⟩ = some (.int .i64 C) ∧ wz.cell? ⟨xb, 4, none⟩ = some (.int .u64 V) ∧ wz.cell? ⟨xb, 5, none⟩ = some (.int .i64 M) ∧ wz.cell? ⟨xb, 6, none⟩ = some (.int .i64 W)) ∧ wz.cell? ⟨fb, o + 1 + a, none⟩ = some (.int .u64 X)) (by kernel_rfl) ?_
  generalize w2.drew = w4 at n4 HB4 HN4 ⊢
  have s4 := And.intro (box_cells HB4.out) ((HN4.out.cell hl id (o + 1 + a)).trans ca)
  clear y0 y1 y2 y3 y4 y5 y6 da n4
  refine wpAnyH_take (i := 0) (v := ?_) rfl (by kernel_rfl) (by kernel_rfl) (by kernel_rfl) (fun _ _ _ h => h) (Or.inl ⟨by rfl, ?_⟩) s4 ?_
  rotate_left
  · intro w hSw; first | (obtain ⟨s1, s2, s3, s4, s5, s6, s7, s8⟩ := hSw; go_simp; rfl) | (obtain ⟨s1, s2, s3, s4, s5, s6, s7⟩ := hSw; go_simp; rfl) | (obtain ⟨s1, s2, s3⟩ := hSw; go_simp; rfl) | (obtain ⟨s1, s2⟩ := hSw; go_simp; rfl) | (have s1 := hSw; go_simp; rfl)
  go_simp
  refine wpAnyH_take (i := 1) (v := ?_) rfl (by kernel_rfl) (by kernel_rfl) (by kernel_rfl) (fun _ _ _ h => h) (Or.inl ⟨by rfl, ?_⟩) s4 ?_
  rotate_left
  · intro w hSw; first | (obtain ⟨s1, s2, s3, s4, s5, s6, s7, s8⟩ := hSw; go_simp; rfl) | (obtain ⟨s1, s2, s3, s4, s5, s6, s7⟩ := hSw; go_simp; rfl) | (obtain ⟨s1, s2, s3⟩ := hSw; go_simp; rfl) | (obtain ⟨s1, s2⟩ := hSw; go_simp; rfl) | (have s1 := hSw; go_simp; rfl)
  go_simp
  refine wpAnyH_take (i := 2) (v := ?_) rfl (by kernel_rfl) (by kernel_rfl) (by kernel_rfl) (fun _ _ _ h => h) (Or.inl ⟨by rfl, ?_⟩) s4 ?_
  rotate_left
  · intro w hSw; first | (obtain ⟨s1, s2, s3, s4, s5, s6, s7, s8⟩ := hSw; go_simp; rfl) | (obtain ⟨s1, s2, s3, s4, s5, s6, s7⟩ := hSw; go_simp; rfl) | (obtain ⟨s1, s2, s3⟩ := hSw; go_simp; rfl) | (obtain ⟨s1, s2⟩ := hSw; go_simp; rfl) | (have s1 := hSw; go_simp; rfl)
  go_simp
  refine wpAnyH_take (i := 4) (v := ?_) rfl (by kernel_rfl) (by kernel_rfl) (by kernel_rfl) (fun _ _ _ h => h) (Or.inl ⟨by rfl, ?_⟩) s4 ?_
  rotate_left
  · intro w hSw; first | (obtain ⟨s1, s2, s3, s4, s5, s6, s7, s8⟩ := hSw; go_simp; rfl) | (obtain ⟨s1, s2, s3, s4, s5, s6, s7⟩ := hSw; go_simp; rfl) | (obtain ⟨s1, s2, s3⟩ := hSw; go_simp; rfl) | (obtain ⟨s1, s2⟩ := hSw; go_simp; rfl) | (have s1 := hSw; go_simp; rfl)
  go_simp
  refine wpAnyH_take (i := 5) (v := ?_) rfl (by kernel_rfl) (by kernel_rfl) (by kernel_rfl) (fun _ _ _ h => h) (Or.inl ⟨by rfl, ?_⟩) s4 ?_
  rotate_left
  · intro w hSw; first | (obtain ⟨s1, s2, s3, s4, s5, s6, s7, s8⟩ := hSw; go_simp; rfl) | (obtain ⟨s1, s2, s3, s4, s5, s6, s7⟩ := hSw; go_simp; rfl) | (obtain ⟨s1, s2, s3⟩ := hSw; go_simp; rfl) | (obtain ⟨s1, s2⟩ := hSw; go_simp; rfl) | (have s1 := hSw; go_simp; rfl)
  go_simp
  refine wpAnyH_take (i := 7) (v := ?_) rfl (by kernel_rfl) (by kernel_rfl) (by kernel_rfl) (fun _ _ _ h => h) (Or.inl ⟨by rfl, ?_⟩) s4 ?_
  rotate_left
  · intro w hSw; first | (obtain ⟨s1, s2, s3, s4, s5, s6, s7, s8⟩ := hSw; go_simp; rfl) | (obtain ⟨s1, s2, s3, s4, s5, s6, s7⟩ := hSw; go_simp; rfl) | (obtain ⟨s1, s2, s3⟩ := hSw; go_simp; rfl) | (obtain ⟨s1, s2⟩ := hSw; go_simp; rfl) | (have s1 := hSw; go_simp; rfl)
  go_simp
  refine wpAnyH_take (i := 8) (v := ?_) rfl (by kernel_rfl) (by kernel_rfl) (by kernel_rfl) (fun _ _ _ h => h) (Or.inl ⟨by rfl, ?_⟩) s4 ?_
  rotate_left
  · intro w hSw; first | (obtain ⟨s1, s2, s3, s4, s5, s6, s7, s8⟩ := hSw; go_simp; rfl) | (obtain ⟨s1, s2, s3, s4, s5, s6, s7⟩ := hSw; go_simp; rfl) | (obtain ⟨s1, s2, s3⟩ := hSw; go_simp; rfl) | (obtain ⟨s1, s2⟩ := hSw; go_simp; rfl) | (have s1 := hSw; go_simp; rfl)
  go_simp
  refine wpAnyH_take (i := 9) (v := ?_) rfl (by kernel_rfl) (by kernel_rfl) (by kernel_rfl) (fun _ _ _ h => h) (Or.inl ⟨by rfl, ?_⟩) s4 ?_
  rotate_left
  · intro w hSw; first | (obtain ⟨s1, s2, s3, s4, s5, s6, s7, s8⟩ := hSw; go_simp; rfl) | (obtain ⟨s1, s2, s3, s4, s5, s6, s7⟩ := hSw; go_simp; rfl) | (obtain ⟨s1, s2, s3⟩ := hSw; go_simp; rfl) | (obtain ⟨s1, s2⟩ := hSw; go_simp; rfl) | (have s1 := hSw; go_simp; rfl)
  go_simp
  refine wpAnyH_take (i := 10) (v := ?_) rfl (by kernel_rfl) (by kernel_rfl) (by kernel_rfl) (fun _ _ _ h => h) (Or.inl ⟨by rfl, ?_⟩) s4 ?_
  rotate_left
  · intro w hSw; first | (obtain ⟨s1, s2, s3, s4, s5, s6, s7, s8⟩ := hSw; go_simp; rfl) | (obtain ⟨s1, s2, s3, s4, s5, s6, s7⟩ := hSw; go_simp; rfl) | (obtain ⟨s1, s2, s3⟩ := hSw; go_simp; rfl) | (obtain ⟨s1, s2⟩ := hSw; go_simp; rfl) | (have s1 := hSw; go_simp; rfl)
  go_simp
  refine wpAnyH_take (i := 11) (v := ?_) rfl (by kernel_rfl) (by kernel_rfl) (by kernel_rfl) (fun _ _ _ h => h) (Or.inl ⟨by rfl, ?_⟩) s4 ?_
  rotate_left
  · intro w hSw; first | (obtain ⟨s1, s2, s3, s4, s5, s6, s7, s8⟩ := hSw; go_simp; rfl) | (obtain ⟨s1, s2, s3, s4, s5, s6, s7⟩ := hSw; go_simp; rfl) | (obtain ⟨s1, s2, s3⟩ := hSw; go_simp; rfl) | (obtain ⟨s1, s2⟩ := hSw; go_simp; rfl) | (have s1 := hSw; go_simp; rfl)
  go_simp
  refine wpAnyH_take (i := 12) (v := ?_) rfl (by kernel_rfl) (by kernel_rfl) (by kernel_rfl) (fun _ _ _ h => h) (Or.inl ⟨by rfl, ?_⟩) s4 ?_
  rotate_left
  · intro w hSw; first | (obtain ⟨s1, s2, s3, s4, s5, s6, s7, s8⟩ := hSw; go_simp; rfl) | (obtain ⟨s1, s2, s3, s4, s5, s6, s7⟩ := hSw; go_simp; rfl) | (obtain ⟨s1, s2, s3⟩ := hSw; go_simp; rfl) | (obtain ⟨s1, s2⟩ := hSw; go_simp; rfl) | (have s1 := hSw; go_simp; rfl)
  go_simp
  refine wpAnyH_take (i := 13) (v := ?_) rfl (by kernel_rfl) (by kernel_rfl) (by kernel_rfl) (fun _ _ _ h => h) (Or.inl ⟨by rfl, ?_⟩) s4 ?_
  rotate_left
  · intro w hSw; first | (obtain ⟨s1, s2, s3, s4, s5, s6, s7, s8⟩ := hSw; go_simp; rfl) | (obtain ⟨s1, s2, s3, s4, s5, s6, s7⟩ := hSw; go_simp; rfl) | (obtain ⟨s1, s2, s3⟩ := hSw; go_simp; rfl) | (obtain ⟨s1, s2⟩ := hSw; go_simp; rfl) | (have s1 := hSw; go_simp; rfl)
  go_simp
  refine wpAnyH_take (i := 14) (v := ?_) rfl (by kernel_rfl) (by kernel_rfl) (by kernel_rfl) (fun _ _ _ h => h) (Or.inl ⟨by rfl, ?_⟩) s4 ?_
  rotate_left
  · intro w hSw; first | (obtain ⟨s1, s2, s3, s4, s5, s6, s7, s8⟩ := hSw; go_simp; rfl) | (obtain ⟨s1, s2, s3, s4, s5, s6, s7⟩ := hSw; go_simp; rfl) | (obtain ⟨s1, s2, s3⟩ := hSw; go_simp; rfl) | (obtain ⟨s1, s2⟩ := hSw; go_simp; rfl) | (have s1 := hSw; go_simp; rfl)
  go_simp
  refine heldOne (i := 3) (by kernel_rfl) rfl (by rfl) (fun K hK => ?_)
  go_simp
  refine (HAK.out w4).mono ?_
  rintro e w' ⟨rfl, rfl⟩
  refine hK.out _ _ s4 ?_
  clear hK K
  refine heldOne (i := 6) (by kernel_rfl) rfl (by rfl) (fun K hK => ?_)
  go_simp
  refine (HAA.out w4 HN4.out).mono ?_
  rintro e w5 ⟨rfl, hn5⟩
  have HB5 := Lib.hid ((hn5.block xb (lt_of_block HB4.out) id).trans HB4.out)
  have HN5 := Lib.hid (HN4.out.trans hn5)
  have s5 := And.intro (box_cells HB5.out) ((HN5.out.cell hl id (o + 1 + a)).trans ca)
  refine hK.out _ _ s5 ?_
  clear hK K s4 hn5
  refine heldOne (i := 15) (by kernel_rfl) rfl (by rfl) (fun K hK => ?_)
  go_simp
  refine (HDO.out w5 HN5.out).mono ?_
  rintro e w6 ⟨f, rfl, hsf, hrep, hfr⟩
  have hb6 := (hfr.block xb (lt_of_block HB5.out) (fun e => by obtain ⟨_, e⟩ := e; omega)).trans HB5.out
  have f6 : Fr (fun k => k = rb ∨ k = rhb) w w6 := (HN5.out.mono (T := fun k => k = rb ∨ k = rhb) (fun _ _ h => h.elim)).trans (hfr.mono (fun _ _ h => h.2))
  have s6 := And.intro (box_cells hb6) ((f6.cell hl (fun e => by omega) (o + 1 + a)).trans ca)
  have HB6 := Lib.hid hb6
  have HSF := Lib.hid hsf
  have HREP := Lib.hid hrep
  have HF6 := Lib.hid f6
  refine hK.out _ _ s6 ?_
  clear hK K s5 hsf hrep hfr hb6 f6
  refine wpAnyH_take (i := 16) (v := ?_) rfl (by kernel_rfl) (by kernel_rfl) (by kernel_rfl) (fun _ _ _ h => h) (Or.inl ⟨by rfl, ?_⟩) s6 ?_
  rotate_left
  · intro w hSw; first | (obtain ⟨s1, s2, s3, s4, s5, s6, s7, s8⟩ := hSw; go_simp; rfl) | (obtain ⟨s1, s2, s3, s4, s5, s6, s7⟩ := hSw; go_simp; rfl) | (obtain ⟨s1, s2, s3⟩ := hSw; go_simp; rfl) | (obtain ⟨s1, s2⟩ := hSw; go_simp; rfl) | (have s1 := hSw; go_simp; rfl)
  go_simp
  refine wpAnyH_take (i := 17) (v := ?_) rfl (by kernel_rfl) (by kernel_rfl) (by kernel_rfl) (fun _ _ _ h => h) (Or.inl ⟨by rfl, ?_⟩) s6 ?_
  rotate_left
  · intro w hSw; first | (obtain ⟨s1, s2, s3, s4, s5, s6, s7, s8⟩ := hSw; go_simp; rfl) | (obtain ⟨s1, s2, s3, s4, s5, s6, s7⟩ := hSw; go_simp; rfl) | (obtain ⟨s1, s2, s3⟩ := hSw; go_simp; rfl) | (obtain ⟨s1, s2⟩ := hSw; go_simp; rfl) | (have s1 := hSw; go_simp; rfl)
  go_simp
  refine wpAnyH_take (i := 18) (v := ?_) rfl (by kernel_rfl) (by kernel_rfl) (by kernel_rfl) (fun _ _ _ h => h) (Or.inl ⟨by rfl, ?_⟩) s6 ?_
  rotate_left
  · intro w hSw; first | (obtain ⟨s1, s2, s3, s4, s5, s6, s7, s8⟩ := hSw; go_simp; rfl) | (obtain ⟨s1, s2, s3, s4, s5, s6, s7⟩ := hSw; go_simp; rfl) | (obtain ⟨s1, s2, s3⟩ := hSw; go_simp; rfl) | (obtain ⟨s1, s2⟩ := hSw; go_simp; rfl) | (have s1 := hSw; go_simp; rfl)
  go_simp
  refine wpAnyH_take (i := 19) (v := ?_) rfl (by kernel_rfl) (by kernel_rfl) (by kernel_rfl) (fun _ _ _ h => h) (Or.inl ⟨by rfl, ?_⟩) s6 ?_
  rotate_left
  · intro w hSw; first | (obtain ⟨s1, s2, s3, s4, s5, s6, s7, s8⟩ := hSw; go_simp; rfl) | (obtain ⟨s1, s2, s3, s4, s5, s6, s7⟩ := hSw; go_simp; rfl) | (obtain ⟨s1, s2, s3⟩ := hSw; go_simp; rfl) | (obtain ⟨s1, s2⟩ := hSw; go_simp; rfl) | (have s1 := hSw; go_simp; rfl)
  go_simp
  refine wpAnyH_take (i := 20) (v := ?_) rfl (by kernel_rfl) (by kernel_rfl) (by kernel_rfl) (fun _ _ _ h => h) (Or.inl ⟨by rfl, ?_⟩) s6 ?_
  rotate_left
  · intro w hSw; first | (obtain ⟨s1, s2, s3, s4, s5, s6, s7, s8⟩ := hSw; go_simp; rfl) | (obtain ⟨s1, s2, s3, s4, s5, s6, s7⟩ := hSw; go_simp; rfl) | (obtain ⟨s1, s2, s3⟩ := hSw; go_simp; rfl) | (obtain ⟨s1, s2⟩ := hSw; go_simp; rfl) | (have s1 := hSw; go_simp; rfl)
  go_simp
  refine wpAnyH_done (by kernel_rfl) ?_ _
  have hfm6 := H.out.keep HF6.out (fun e => by omega) (fun i hi e => by
    rcases e with rfl | rfl
    · exact hvp.1 hi
    · exact hvp.2 hi)
  have HFM6 := Lib.hid hfm6
  have y0 : w6.cell? ⟨xb, 0, none⟩ = some (.int .i64 20) := s6.1.1
  clear hfm6 s6
  cases oe with
  | none =>
    obtain rfl : f = .pointer none := HSF.out
    go_wp2_with fail
    have n7 : New w6 w6.drew := (Fr.refl _ _).drew
    have HB7 := Lib.hid ((n7.block xb (lt_of_block HB6.out) id).trans HB6.out)
    have HFM7 := Lib.hid (HFM6.out.new n7)
    have HREP7 := Lib.hid (HREP.out.keep n7 id id id)
    have HF7 := Lib.hid (HF6.out.trans (n7.mono (fun _ _ h => h.elim)))
    refine heldStart (fun wz => wz.cell? ⟨xb, 1, none⟩ = some (.int .i64 a)) (by kernel_rfl) ?_
    generalize w6.drew = w7 at n7 HB7 HFM7 HREP7 HF7 ⊢
    have s7 : w7.cell? ⟨xb, 1, none⟩ = some (.int .i64 a) := cell_of_block HB7.out 1
    clear y0 n7
    refine wpAnyH_take (i := 0) (v := ?_) rfl (by kernel_rfl) (by kernel_rfl) (by kernel_rfl) (fun _ _ _ h => h) (Or.inl ⟨by rfl, ?_⟩) s7 ?_
    rotate_left
    · intro w hSw; first | (obtain ⟨s1, s2, s3, s4, s5, s6, s7, s8⟩ := hSw; go_simp; rfl) | (obtain ⟨s1, s2, s3, s4, s5, s6, s7⟩ := hSw; go_simp; rfl) | (obtain ⟨s1, s2, s3⟩ := hSw; go_simp; rfl) | (obtain ⟨s1, s2⟩ := hSw; go_simp; rfl) | (have s1 := hSw; go_simp; rfl)
    go_simp
    refine wpAnyH_take (i := 1) (v := ?_) rfl (by kernel_rfl) (by kernel_rfl) (by kernel_rfl) (fun _ _ _ h => h) (Or.inl ⟨by rfl, ?_⟩) s7 ?_
    rotate_left
    · intro w hSw; first | (obtain ⟨s1, s2, s3, s4, s5, s6, s7, s8⟩ := hSw; go_simp; rfl) | (obtain ⟨s1, s2, s3, s4, s5, s6, s7⟩ := hSw; go_simp; rfl) | (obtain ⟨s1, s2, s3⟩ := hSw; go_simp; rfl) | (obtain ⟨s1, s2⟩ := hSw; go_simp; rfl) | (have s1 := hSw; go_simp; rfl)
    go_simp
    refine wpAnyH_take (i := 2) (v := ?_) rfl (by kernel_rfl) (by kernel_rfl) (by kernel_rfl) (fun _ _ _ h => h) (Or.inl ⟨by rfl, ?_⟩) s7 ?_
    rotate_left
    · intro w hSw; first | (obtain ⟨s1, s2, s3, s4, s5, s6, s7, s8⟩ := hSw; go_simp; rfl) | (obtain ⟨s1, s2, s3, s4, s5, s6, s7⟩ := hSw; go_simp; rfl) | (obtain ⟨s1, s2, s3⟩ := hSw; go_simp; rfl) | (obtain ⟨s1, s2⟩ := hSw; go_simp; rfl) | (have s1 := hSw; go_simp; rfl)
    go_simp
    refine wpAnyH_take (i := 3) (v := ?_) rfl (by kernel_rfl) (by kernel_rfl) (by kernel_rfl) (fun _ _ _ h => h) (Or.inl ⟨by rfl, ?_⟩) s7 ?_
    rotate_left
    · intro w hSw; first | (obtain ⟨s1, s2, s3, s4, s5, s6, s7, s8⟩ := hSw; go_simp; rfl) | (obtain ⟨s1, s2, s3, s4, s5, s6, s7⟩ := hSw; go_simp; rfl) | (obtain ⟨s1, s2, s3⟩ := hSw; go_simp; rfl) | (obtain ⟨s1, s2⟩ := hSw; go_simp; rfl) | (have s1 := hSw; go_simp; rfl)
    go_simp
    refine wpAnyH_take (i := 4) (v := ?_) rfl (by kernel_rfl) (by kernel_rfl) (by kernel_rfl) (fun _ _ _ h => h) (Or.inl ⟨by rfl, ?_⟩) s7 ?_
    rotate_left
    · intro w hSw; first | (obtain ⟨s1, s2, s3, s4, s5, s6, s7, s8⟩ := hSw; go_simp; rfl) | (obtain ⟨s1, s2, s3, s4, s5, s6, s7⟩ := hSw; go_simp; rfl) | (obtain ⟨s1, s2, s3⟩ := hSw; go_simp; rfl) | (obtain ⟨s1, s2⟩ := hSw; go_simp; rfl) | (have s1 := hSw; go_simp; rfl)
    go_simp
    refine wpAnyH_take (i := 5) (v := ?_) rfl (by kernel_rfl) (by kernel_rfl) (by kernel_rfl) (fun _ _ _ h => h) (Or.inl ⟨by rfl, ?_⟩) s7 ?_
    rotate_left
    · intro w hSw; first | (obtain ⟨s1, s2, s3, s4, s5, s6, s7, s8⟩ := hSw; go_simp; rfl) | (obtain ⟨s1, s2, s3, s4, s5, s6, s7⟩ := hSw; go_simp; rfl) | (obtain ⟨s1, s2, s3⟩ := hSw; go_simp; rfl) | (obtain ⟨s1, s2⟩ := hSw; go_simp; rfl) | (have s1 := hSw; go_simp; rfl)
    go_simp
    refine wpAnyH_take (i := 6) (v := ?_) rfl (by kernel_rfl) (by kernel_rfl) (by kernel_rfl) (fun _ _ _ h => h) (Or.inl ⟨by rfl, ?_⟩) s7 ?_
    rotate_left
    · intro w hSw; first | (obtain ⟨s1, s2, s3, s4, s5, s6, s7, s8⟩ := hSw; go_simp; rfl) | (obtain ⟨s1, s2, s3, s4, s5, s6, s7⟩ := hSw; go_simp; rfl) | (obtain ⟨s1, s2, s3⟩ := hSw; go_simp; rfl) | (obtain ⟨s1, s2⟩ := hSw; go_simp; rfl) | (have s1 := hSw; go_simp; rfl)
    go_simp
    refine heldOne (i := 7) (by kernel_rfl) rfl (by rfl) (fun K hK => ?_)
    have ya := HFM7.out.fr.regD ha
    have yz := HFM7.out.fr.free
    go_simp
    have f8 := Fr34.set (fb := fb) (o := o) (w := w7) (i := o + 1 + a) (.int .u64 (Z : Nat)) (by omega) (by omega)
    have HFM8 := Lib.hid (HFM7.out.setReg ha hZ)
    have HREP8 := Lib.hid (HREP7.out.keep f8.fr (Ne.symm hap.1) (Ne.symm hap.2.1) (Ne.symm hap.2.2))
    have HF8 := Lib.hid ((HF7.out.mono (T := fun k => k = fb ∨ k = rb ∨ k = rhb) (fun _ _ h => .inr h)).trans (f8.fr.mono (fun _ _ h => .inl h)))
    have s8 : (w7.setCell ⟨fb, o + 1 + a, none⟩ (.int .u64 (Z : Nat))).cell? ⟨xb, 1, none⟩ = some (.int .i64 a) := by rw [cell_set_ne _ (.inl (by omega))]; exact s7
    refine hK.out _ _ s8 ?_
    clear hK K ya yz s7 f8
    refine wpAnyH_done (by kernel_rfl) ?_ _
    generalize w7.setCell ⟨fb, o + 1 + a, none⟩ (.int .u64 (Z : Nat)) = w8 at HFM8 HREP8 HF8 s8 ⊢
    have e0 : w8.cell? ⟨fb, o, none⟩ = some (.int .i64 k) := by rw [← HPC.out]; exact HFM8.out.fr.pc
    have zf : ∀ i, w8.frozen? ⟨fb, i, none⟩ = false := HFM8.out.fr.free
    clear s8
    go_wp2
    go_ret2
    have f9 := Fr34.set (fb := fb) (o := o) (w := w8) (.int .i64 ((k : Int) + 1)) (Nat.le_refl _) (by omega)
    exact ⟨_, _, rfl, HFIN.out _ _ _ rfl rfl (by rw [HPC.out]; exact HFM8.out.setPc _) (HREP8.out.keep f9.fr (Ne.symm hap.1) (Ne.symm hap.2.1) (Ne.symm hap.2.2)) (HF8.out.trans (f9.fr.mono (fun _ _ h => .inl h)))⟩
  | some x =>
    obtain ⟨q, kk⟩ := x
    obtain ⟨eb, rfl⟩ := HSF.out.at
    have e0 : w6.cell? ⟨fb, o, none⟩ = some (.int .i64 k) := by rw [← HPC.out]; exact HFM6.out.fr.pc
    go_wp2_with fail
    refine (in_any vmL k _ _ kk _ (failN_of HSF.out) (by simp)).mono ?_
    rintro e w7 ⟨f', rfl, hf7, hn7⟩
    have HFN := Lib.hid hf7
    have HREP7 := Lib.hid (HREP.out.keep hn7 id id id)
    have HFM7 := Lib.hid (HFM6.out.new hn7)
    have HF7 := Lib.hid (HF6.out.trans (hn7.mono (fun _ _ h => h.elim)))
    clear hf7 hn7 e0 y0
    go_wp2
    go_ret2
    exact ⟨_, _, rfl, HFIN.out _ _ _ rfl (by rw [HPC.out]; exact HFN.out) HFM7.out HREP7.out (HF7.out.mono (fun _ _ h => .inr h))⟩

set_option maxRecDepth 100000 in
set_option maxHeartbeats 8000000 in
theorem rstep_acc21 (a : Nat) (ha : a < 32) (c : Nat) (hc : c < 32) (hC : C = c) (h : FmAt w fb o v F) (hi : InsAt w cg co k 21 a B C V M W) (hk : k < n) (hn : n ≤ 1000000) (hV : V < 18446744073709551616) (hpc : F.pc = k) (hg : goodV 21 a B C V n = true)
    (hm : RefRep w rb rwb rhb cs ws ct) (hct : ct + 1 < 1000000000) (hap : fb ≠ rb ∧ fb ≠ rwb ∧ fb ≠ rhb) (hvp : v.ownBlock ≠ some rb ∧ v.ownBlock ≠ some rhb) :
    Calls Tryd.prog 11 #[.pointer (some ⟨fb, o, none⟩), .slice (some ⟨cg, co, none⟩) n cap, (.pointer (some ⟨rb, 0, none⟩))] w fun e w' => ∃ r er, e = .returned (.tuple #[r, er]) ∧ RAccRes w fb o rb rwb rhb v F cs ws ct 21 a B C V r er w' := by
  subst hC
  have c0 := h.fr.pc
  have hl := h.fr.lt
  rw [hpc] at c0
  unfold goodV at hg
  rw [show ((21 : Int) != 22) = true from rfl] at hg
  have HRT := Lib.hid (fun w' => right_any 21 a B c 0 0 V n true w' hV (by omega))
  rw [hg] at HRT
  have HI := Lib.hid hi
  obtain ⟨_, x0, x1, x2, x3, x4, x5, x6⟩ := hi
  have q1 : (0 : Int) ≤ (k : Int) := by omega
  have q2 : (k : Int) < (n : Int) := by omega
  have tk : IntKind.i64.wrap ((k : Int) + 1) = (k : Int) + 1 := IntWalk.i64_in _ (by omega)
  have H := Lib.hid h
  have HPC := Lib.hid hpc
  have q3 : (0 : Int) ≤ (a : Int) := by omega
  have q4 : (a : Int) < 32 := by omega
  have hP := adrN_fit (rs := F.rs) B hV
  have hXf := getD_fit h.fr.fits a
  have hY := accV_fit h.fr.fits 21 c a
  have ca := h.fr.regD ha
  have cc := h.fr.regD hc
  rw [show F.rs.getD c 0 = accV 21 c a F.rs from rfl] at cc
  have q5 : (0 : Int) ≤ (c : Int) := by omega
  have q6 : (c : Int) < 32 := by omega
  have HAA := Lib.hid (fun w' (f : New w w') => raddress_any fb o F.pc F.rs v 21 a B c V M W w' (h.fr.new f) hV)
  have HDO := Lib.hid (fun w' (f : New w w') => rdo_any (accK 21) rb rwb rhb cs ws ct (adrN F.rs B V) (F.rs.getD a 0) (accV 21 c a F.rs) w' (by decide) (hm.keep f id id id) hct hY hXf hP)
  have HFIN := Lib.hid (fun (r er : Value) (w' : World) h1 h2 h3 h4 h5 => RAccRes.mk (w := w) (fb := fb) (o := o) (rb := rb) (rwb := rwb) (rhb := rhb) (v := v) (F := F) (cs := cs) (ws := ws) (ct := ct) (op := 21) (a := a) (B := B) (C := (c : Int)) (V := V) (r := r) (er := er) (w' := w') h1 h2 h3 h4 h5)
  obtain ⟨hm1, hm2, hm3⟩ := show rb < w.heap.size ∧ rwb < w.heap.size ∧ rhb < w.heap.size from ⟨hm.hd.lt, hm.widths.lt, hm.holds.lt⟩
  have HAK := Lib.hid (fun w' => raccK_any 21 w' (by omega))
  have hZ := RaccVal_fit hm (adrN F.rs B V)
  generalize accV 21 c a F.rs = Y at HDO HFIN hY cc
  generalize accCs (accK 21) cs ws (adrN F.rs B V) (F.rs.getD a 0) Y = cs' at HDO HFIN
  generalize accN ws (adrN F.rs B V) ct = ct' at HDO HFIN
  generalize accErr ws (adrN F.rs B V) = oe at HDO HFIN
  generalize accK 21 = K0 at HDO HAK
  generalize adrN F.rs B V = P at HAA HDO HFIN hP hZ
  rw [show accY 21 a F.rs cs ws P = accVal cs ws P from rfl] at HFIN
  generalize accVal cs ws P = Z at HDO hZ HFIN
  generalize F.rs.getD a 0 = X at HDO hXf ca
  clear h hg hpc hm
  go_enter Tryd.func11, Tryd.ntmps11
  go_wp2_with fail
  obtain ⟨W0, hW0⟩ : ∃ W0, (w.alloc (.cells #[.int .i64 21, .int .i64 a, .int .i64 B, .int .i64 c, .int .u64 V, .int .i64 M, .int .i64 W] 52)).alloc (.cells #[.int .i64 21, .int .i64 a, .int .i64 B, .int .i64 c, .int .u64 V, .int .i64 0, .int .i64 0] 52) = W0 := ⟨_, rfl⟩
  have hn0 : New w W0 := by rw [← hW0]; exact ((Fr.refl _ _).alloc _).alloc _
  have hb0 : W0.heap[w.heap.size]? = some (.cells #[.int .i64 21, .int .i64 a, .int .i64 B, .int .i64 c, .int .u64 V, .int .i64 M, .int .i64 W] 52 (0, 0)) := by rw [← hW0, block_alloc (by simp)]; exact block_alloc_new _ _
  rw [hW0]
  obtain ⟨xb, hxb⟩ : ∃ xb, w.heap.size = xb := ⟨_, rfl⟩
  have hxf : fb < xb := by omega
  rw [hxb] at hb0 ⊢
  refine (HRT.out _).mono ?_
  rintro e w1 ⟨rfl, hn1⟩
  have hb1 := (hn1.block xb (lt_of_block hb0) id).trans hb0
  have HB1 := Lib.hid hb1
  have HN1 := Lib.hid (hn0.trans hn1)
  have hx1 := lt_of_block hb1
  obtain ⟨y0, y1, y2, y3, y4, y5, y6⟩ := box_cells hb1
  have d0 := (HN1.out.cell hl id o).trans c0
  have zf : ∀ i, w1.frozen? ⟨fb, i, none⟩ = false := fun i => (HN1.out.frozen hl id i).trans (H.out.fr.free i)
  clear hW0 hn0 hb0 hn1 hb1 c0 x0 x1 x2 x3 x4 x5 x6 HRT HI
  have da := (HN1.out.cell hl id _).trans ca
  go_wp2_with fail
  go_quiet (fail)
  have n2 : New w1 (w1.drewN nq) := (Fr.refl _ _).drewN nq
  have HB2 := Lib.hid ((n2.block xb (lt_of_block HB1.out) id).trans HB1.out)
  have HN2 := Lib.hid (HN1.out.trans n2)
  generalize w1.drewN nq = w2 at n2 HB2 HN2 ⊢
  clear y0 y1 y2 y3 y4 y5 y6 da n2
  obtain ⟨y0, y1, y2, y3, y4, y5, y6⟩ := box_cells HB2.out
  have da := (HN2.out.cell hl id _).trans ca
  clear d0 zf
  have dc := (HN2.out.cell hl id _).trans cc
  go_wp2_with fail
  go_quiet (fail)
  have n3 : New w2 (w2.drewN nq) := (Fr.refl _ _).drewN nq
  have HB3 := Lib.hid ((n3.block xb (lt_of_block HB2.out) id).trans HB2.out)
  have HN3 := Lib.hid (HN2.out.trans n3)
  generalize w2.drewN nq = w3 at n3 HB3 HN3 ⊢
  clear y0 y1 y2 y3 y4 y5 y6 da n3
  obtain ⟨y0, y1, y2, y3, y4, y5, y6⟩ := box_cells HB3.out
  have da := (HN3.out.cell hl id _).trans ca
  clear dc
  go_wp2_with fail
  have n4 : New w3 w3.drew := (Fr.refl _ _).drew
  have HB4 := Lib.hid ((n4.block xb (lt_of_block HB3.out) id).trans HB3.out)
  have HN4 := Lib.hid (HN3.out.trans n4)
  refine heldStart (fun wz => (wz.cell? ⟨xb, 0, none⟩ = some (.int .i64 21) ∧ wz.cell? ⟨xb, 1, none⟩ = some (.int .i64 a) ∧ wz.cell? ⟨xb, 2, none⟩ = some (.int .i64 B) ∧ wz.cell? ⟨xb, 3, none⟩ = some (.int .i64 c) ∧ wz.cell? ⟨xb, 4, none⟩ = some (.int .u64 V) ∧ wz.cell? ⟨xb, 5, none⟩ = some (.int .i64 M) ∧ wz.cell? ⟨xb, 6, none⟩ = some (.int .i64 W)) ∧ wz.cell? ⟨fb, o + 1 + a, none⟩ = some (.int .u64 X)) (by kernel_rfl) ?_
  generalize w3.drew = w4 at n4 HB4 HN4 ⊢
  have s4 := And.intro (box_cells HB4.out) ((HN4.out.cell hl id (o + 1 + a)).trans ca)
  clear y0 y1 y2 y3 y4 y5 y6 da n4
  refine wpAnyH_take (i := 0) (v := ?_) rfl (by kernel_rfl) (by kernel_rfl) (by kernel_rfl) (fun _ _ _ h => h) (Or.inl ⟨by rfl, ?_⟩) s4 ?_
  rotate_left
  · intro w hSw; first | (obtain ⟨s1, s2, s3, s4, s5, s6, s7, s8⟩ := hSw; go_simp; rfl) | (obtain ⟨s1, s2, s3, s4, s5, s6, s7⟩ := hSw; go_simp; rfl) | (obtain ⟨s1, s2, s3⟩ := hSw; go_simp; rfl) | (obtain ⟨s1, s2⟩ := hSw; go_simp; rfl) | (have s1 := hSw; go_simp; rfl)
  go_simp
  refine wpAnyH_take (i := 1) (v := ?_) rfl (by kernel_rfl) (by kernel_rfl) (by kernel_rfl) (fun _ _ _ h => h) (Or.inl ⟨by rfl, ?_⟩) s4 ?_
  rotate_left
  · intro w hSw; first | (obtain ⟨s1, s2, s3, s4, s5, s6, s7, s8⟩ := hSw; go_simp; rfl) | (obtain ⟨s1, s2, s3, s4, s5, s6, s7⟩ := hSw; go_simp; rfl) | (obtain ⟨s1, s2, s3⟩ := hSw; go_simp; rfl) | (obtain ⟨s1, s2⟩ := hSw; go_simp; rfl) | (have s1 := hSw; go_simp; rfl)
  go_simp
  refine wpAnyH_take (i := 2) (v := ?_) rfl (by kernel_rfl) (by kernel_rfl) (by kernel_rfl) (fun _ _ _ h => h) (Or.inl ⟨by rfl, ?_⟩) s4 ?_
  rotate_left
  · intro w hSw; first | (obtain ⟨s1, s2, s3, s4, s5, s6, s7, s8⟩ := hSw; go_simp; rfl) | (obtain ⟨s1, s2, s3, s4, s5, s6, s7⟩ := hSw; go_simp; rfl) | (obtain ⟨s1, s2, s3⟩ := hSw; go_simp; rfl) | (obtain ⟨s1, s2⟩ := hSw; go_simp; rfl) | (have s1 := hSw; go_simp; rfl)
  go_simp
  refine wpAnyH_take (i := 4) (v := ?_) rfl (by kernel_rfl) (by kernel_rfl) (by kernel_rfl) (fun _ _ _ h => h) (Or.inl ⟨by rfl, ?_⟩) s4 ?_
  rotate_left
  · intro w hSw; first | (obtain ⟨s1, s2, s3, s4, s5, s6, s7, s8⟩ := hSw; go_simp; rfl) | (obtain ⟨s1, s2, s3, s4, s5, s6, s7⟩ := hSw; go_simp; rfl) | (obtain ⟨s1, s2, s3⟩ := hSw; go_simp; rfl) | (obtain ⟨s1, s2⟩ := hSw; go_simp; rfl) | (have s1 := hSw; go_simp; rfl)
  go_simp
  refine wpAnyH_take (i := 5) (v := ?_) rfl (by kernel_rfl) (by kernel_rfl) (by kernel_rfl) (fun _ _ _ h => h) (Or.inl ⟨by rfl, ?_⟩) s4 ?_
  rotate_left
  · intro w hSw; first | (obtain ⟨s1, s2, s3, s4, s5, s6, s7, s8⟩ := hSw; go_simp; rfl) | (obtain ⟨s1, s2, s3, s4, s5, s6, s7⟩ := hSw; go_simp; rfl) | (obtain ⟨s1, s2, s3⟩ := hSw; go_simp; rfl) | (obtain ⟨s1, s2⟩ := hSw; go_simp; rfl) | (have s1 := hSw; go_simp; rfl)
  go_simp
  refine wpAnyH_take (i := 7) (v := ?_) rfl (by kernel_rfl) (by kernel_rfl) (by kernel_rfl) (fun _ _ _ h => h) (Or.inl ⟨by rfl, ?_⟩) s4 ?_
  rotate_left
  · intro w hSw; first | (obtain ⟨s1, s2, s3, s4, s5, s6, s7, s8⟩ := hSw; go_simp; rfl) | (obtain ⟨s1, s2, s3, s4, s5, s6, s7⟩ := hSw; go_simp; rfl) | (obtain ⟨s1, s2, s3⟩ := hSw; go_simp; rfl) | (obtain ⟨s1, s2⟩ := hSw; go_simp; rfl) | (have s1 := hSw; go_simp; rfl)
  go_simp
  refine wpAnyH_take (i := 8) (v := ?_) rfl (by kernel_rfl) (by kernel_rfl) (by kernel_rfl) (fun _ _ _ h => h) (Or.inl ⟨by rfl, ?_⟩) s4 ?_
  rotate_left
  · intro w hSw; first | (obtain ⟨s1, s2, s3, s4, s5, s6, s7, s8⟩ := hSw; go_simp; rfl) | (obtain ⟨s1, s2, s3, s4, s5, s6, s7⟩ := hSw; go_simp; rfl) | (obtain ⟨s1, s2, s3⟩ := hSw; go_simp; rfl) | (obtain ⟨s1, s2⟩ := hSw; go_simp; rfl) | (have s1 := hSw; go_simp; rfl)
  go_simp
  refine wpAnyH_take (i := 9) (v := ?_) rfl (by kernel_rfl) (by kernel_rfl) (by kernel_rfl) (fun _ _ _ h => h) (Or.inl ⟨by rfl, ?_⟩) s4 ?_
  rotate_left
  · intro w hSw; first | (obtain ⟨s1, s2, s3, s4, s5, s6, s7, s8⟩ := hSw; go_simp; rfl) | (obtain ⟨s1, s2, s3, s4, s5, s6, s7⟩ := hSw; go_simp; rfl) | (obtain ⟨s1, s2, s3⟩ := hSw; go_simp; rfl) | (obtain ⟨s1, s2⟩ := hSw; go_simp; rfl) | (have s1 := hSw; go_simp; rfl)
  go_simp
  refine wpAnyH_take (i := 10) (v := ?_) rfl (by kernel_rfl) (by kernel_rfl) (by kernel_rfl) (fun _ _ _ h => h) (Or.inl ⟨by rfl, ?_⟩) s4 ?_
  rotate_left
  · intro w hSw; first | (obtain ⟨s1, s2, s3, s4, s5, s6, s7, s8⟩ := hSw; go_simp; rfl) | (obtain ⟨s1, s2, s3, s4, s5, s6, s7⟩ := hSw; go_simp; rfl) | (obtain ⟨s1, s2, s3⟩ := hSw; go_simp; rfl) | (obtain ⟨s1, s2⟩ := hSw; go_simp; rfl) | (have s1 := hSw; go_simp; rfl)
  go_simp
  refine wpAnyH_take (i := 11) (v := ?_) rfl (by kernel_rfl) (by kernel_rfl) (by kernel_rfl) (fun _ _ _ h => h) (Or.inl ⟨by rfl, ?_⟩) s4 ?_
  rotate_left
  · intro w hSw; first | (obtain ⟨s1, s2, s3, s4, s5, s6, s7, s8⟩ := hSw; go_simp; rfl) | (obtain ⟨s1, s2, s3, s4, s5, s6, s7⟩ := hSw; go_simp; rfl) | (obtain ⟨s1, s2, s3⟩ := hSw; go_simp; rfl) | (obtain ⟨s1, s2⟩ := hSw; go_simp; rfl) | (have s1 := hSw; go_simp; rfl)
  go_simp
  refine wpAnyH_take (i := 12) (v := ?_) rfl (by kernel_rfl) (by kernel_rfl) (by kernel_rfl) (fun _ _ _ h => h) (Or.inl ⟨by rfl, ?_⟩) s4 ?_
  rotate_left
  · intro w hSw; first | (obtain ⟨s1, s2, s3, s4, s5, s6, s7, s8⟩ := hSw; go_simp; rfl) | (obtain ⟨s1, s2, s3, s4, s5, s6, s7⟩ := hSw; go_simp; rfl) | (obtain ⟨s1, s2, s3⟩ := hSw; go_simp; rfl) | (obtain ⟨s1, s2⟩ := hSw; go_simp; rfl) | (have s1 := hSw; go_simp; rfl)
  go_simp
  refine wpAnyH_take (i := 13) (v := ?_) rfl (by kernel_rfl) (by kernel_rfl) (by kernel_rfl) (fun _ _ _ h => h) (Or.inl ⟨by rfl, ?_⟩) s4 ?_
  rotate_left
  · intro w hSw; first | (obtain ⟨s1, s2, s3, s4, s5, s6, s7, s8⟩ := hSw; go_simp; rfl) | (obtain ⟨s1, s2, s3, s4, s5, s6, s7⟩ := hSw; go_simp; rfl) | (obtain ⟨s1, s2, s3⟩ := hSw; go_simp; rfl) | (obtain ⟨s1, s2⟩ := hSw; go_simp; rfl) | (have s1 := hSw; go_simp; rfl)
  go_simp
  refine wpAnyH_take (i := 14) (v := ?_) rfl (by kernel_rfl) (by kernel_rfl) (by kernel_rfl) (fun _ _ _ h => h) (Or.inl ⟨by rfl, ?_⟩) s4 ?_
  rotate_left
  · intro w hSw; first | (obtain ⟨s1, s2, s3, s4, s5, s6, s7, s8⟩ := hSw; go_simp; rfl) | (obtain ⟨s1, s2, s3, s4, s5, s6, s7⟩ := hSw; go_simp; rfl) | (obtain ⟨s1, s2, s3⟩ := hSw; go_simp; rfl) | (obtain ⟨s1, s2⟩ := hSw; go_simp; rfl) | (have s1 := hSw; go_simp; rfl)
  go_simp
  refine heldOne (i := 3) (by kernel_rfl) rfl (by rfl) (fun K hK => ?_)
  go_simp
  refine (HAK.out w4).mono ?_
  rintro e w' ⟨rfl, rfl⟩
  refine hK.out _ _ s4 ?_
  clear hK K
  refine heldOne (i := 6) (by kernel_rfl) rfl (by rfl) (fun K hK => ?_)
  go_simp
  refine (HAA.out w4 HN4.out).mono ?_
  rintro e w5 ⟨rfl, hn5⟩
  have HB5 := Lib.hid ((hn5.block xb (lt_of_block HB4.out) id).trans HB4.out)
  have HN5 := Lib.hid (HN4.out.trans hn5)
  have s5 := And.intro (box_cells HB5.out) ((HN5.out.cell hl id (o + 1 + a)).trans ca)
  refine hK.out _ _ s5 ?_
  clear hK K s4 hn5
  refine heldOne (i := 15) (by kernel_rfl) rfl (by rfl) (fun K hK => ?_)
  go_simp
  refine (HDO.out w5 HN5.out).mono ?_
  rintro e w6 ⟨f, rfl, hsf, hrep, hfr⟩
  have hb6 := (hfr.block xb (lt_of_block HB5.out) (fun e => by obtain ⟨_, e⟩ := e; omega)).trans HB5.out
  have f6 : Fr (fun k => k = rb ∨ k = rhb) w w6 := (HN5.out.mono (T := fun k => k = rb ∨ k = rhb) (fun _ _ h => h.elim)).trans (hfr.mono (fun _ _ h => h.2))
  have s6 := And.intro (box_cells hb6) ((f6.cell hl (fun e => by omega) (o + 1 + a)).trans ca)
  have HB6 := Lib.hid hb6
  have HSF := Lib.hid hsf
  have HREP := Lib.hid hrep
  have HF6 := Lib.hid f6
  refine hK.out _ _ s6 ?_
  clear hK K s5 hsf hrep hfr hb6 f6
  refine wpAnyH_take (i := 16) (v := ?_) rfl (by kernel_rfl) (by kernel_rfl) (by kernel_rfl) (fun _ _ _ h => h) (Or.inl ⟨by rfl, ?_⟩) s6 ?_
  rotate_left
  · intro w hSw; first | (obtain ⟨s1, s2, s3, s4, s5, s6, s7, s8⟩ := hSw; go_simp; rfl) | (obtain ⟨s1, s2, s3, s4, s5, s6, s7⟩ := hSw; go_simp; rfl) | (obtain ⟨s1, s2, s3⟩ := hSw; go_simp; rfl) | (obtain ⟨s1, s2⟩ := hSw; go_simp; rfl) | (have s1 := hSw; go_simp; rfl)
  go_simp
  refine wpAnyH_take (i := 17) (v := ?_) rfl (by kernel_rfl) (by kernel_rfl) (by kernel_rfl) (fun _ _ _ h => h) (Or.inl ⟨by rfl, ?_⟩) s6 ?_
  rotate_left
  · intro w hSw; first | (obtain ⟨s1, s2, s3, s4, s5, s6, s7, s8⟩ := hSw; go_simp; rfl) | (obtain ⟨s1, s2, s3, s4, s5, s6, s7⟩ := hSw; go_simp; rfl) | (obtain ⟨s1, s2, s3⟩ := hSw; go_simp; rfl) | (obtain ⟨s1, s2⟩ := hSw; go_simp; rfl) | (have s1 := hSw; go_simp; rfl)
  go_simp
  refine wpAnyH_take (i := 18) (v := ?_) rfl (by kernel_rfl) (by kernel_rfl) (by kernel_rfl) (fun _ _ _ h => h) (Or.inl ⟨by rfl, ?_⟩) s6 ?_
  rotate_left
  · intro w hSw; first | (obtain ⟨s1, s2, s3, s4, s5, s6, s7, s8⟩ := hSw; go_simp; rfl) | (obtain ⟨s1, s2, s3, s4, s5, s6, s7⟩ := hSw; go_simp; rfl) | (obtain ⟨s1, s2, s3⟩ := hSw; go_simp; rfl) | (obtain ⟨s1, s2⟩ := hSw; go_simp; rfl) | (have s1 := hSw; go_simp; rfl)
  go_simp
  refine wpAnyH_take (i := 19) (v := ?_) rfl (by kernel_rfl) (by kernel_rfl) (by kernel_rfl) (fun _ _ _ h => h) (Or.inl ⟨by rfl, ?_⟩) s6 ?_
  rotate_left
  · intro w hSw; first | (obtain ⟨s1, s2, s3, s4, s5, s6, s7, s8⟩ := hSw; go_simp; rfl) | (obtain ⟨s1, s2, s3, s4, s5, s6, s7⟩ := hSw; go_simp; rfl) | (obtain ⟨s1, s2, s3⟩ := hSw; go_simp; rfl) | (obtain ⟨s1, s2⟩ := hSw; go_simp; rfl) | (have s1 := hSw; go_simp; rfl)
  go_simp
  refine wpAnyH_take (i := 20) (v := ?_) rfl (by kernel_rfl) (by kernel_rfl) (by kernel_rfl) (fun _ _ _ h => h) (Or.inl ⟨by rfl, ?_⟩) s6 ?_
  rotate_left
  · intro w hSw; first | (obtain ⟨s1, s2, s3, s4, s5, s6, s7, s8⟩ := hSw; go_simp; rfl) | (obtain ⟨s1, s2, s3, s4, s5, s6, s7⟩ := hSw; go_simp; rfl) | (obtain ⟨s1, s2, s3⟩ := hSw; go_simp; rfl) | (obtain ⟨s1, s2⟩ := hSw; go_simp; rfl) | (have s1 := hSw; go_simp; rfl)
  go_simp
  refine wpAnyH_done (by kernel_rfl) ?_ _
  have hfm6 := H.out.keep HF6.out (fun e => by omega) (fun i hi e => by
    rcases e with rfl | rfl
    · exact hvp.1 hi
    · exact hvp.2 hi)
  have HFM6 := Lib.hid hfm6
  have y0 : w6.cell? ⟨xb, 0, none⟩ = some (.int .i64 21) := s6.1.1
  clear hfm6 s6
  cases oe with
  | none =>
    obtain rfl : f = .pointer none := HSF.out
    go_wp2_with fail
    have n7 : New w6 w6.drew := (Fr.refl _ _).drew
    have HB7 := Lib.hid ((n7.block xb (lt_of_block HB6.out) id).trans HB6.out)
    have HFM7 := Lib.hid (HFM6.out.new n7)
    have HREP7 := Lib.hid (HREP.out.keep n7 id id id)
    have HF7 := Lib.hid (HF6.out.trans (n7.mono (fun _ _ h => h.elim)))
    refine heldStart (fun wz => wz.cell? ⟨xb, 1, none⟩ = some (.int .i64 a)) (by kernel_rfl) ?_
    generalize w6.drew = w7 at n7 HB7 HFM7 HREP7 HF7 ⊢
    have s7 : w7.cell? ⟨xb, 1, none⟩ = some (.int .i64 a) := cell_of_block HB7.out 1
    clear y0 n7
    refine wpAnyH_take (i := 0) (v := ?_) rfl (by kernel_rfl) (by kernel_rfl) (by kernel_rfl) (fun _ _ _ h => h) (Or.inl ⟨by rfl, ?_⟩) s7 ?_
    rotate_left
    · intro w hSw; first | (obtain ⟨s1, s2, s3, s4, s5, s6, s7, s8⟩ := hSw; go_simp; rfl) | (obtain ⟨s1, s2, s3, s4, s5, s6, s7⟩ := hSw; go_simp; rfl) | (obtain ⟨s1, s2, s3⟩ := hSw; go_simp; rfl) | (obtain ⟨s1, s2⟩ := hSw; go_simp; rfl) | (have s1 := hSw; go_simp; rfl)
    go_simp
    refine wpAnyH_take (i := 1) (v := ?_) rfl (by kernel_rfl) (by kernel_rfl) (by kernel_rfl) (fun _ _ _ h => h) (Or.inl ⟨by rfl, ?_⟩) s7 ?_
    rotate_left
    · intro w hSw; first | (obtain ⟨s1, s2, s3, s4, s5, s6, s7, s8⟩ := hSw; go_simp; rfl) | (obtain ⟨s1, s2, s3, s4, s5, s6, s7⟩ := hSw; go_simp; rfl) | (obtain ⟨s1, s2, s3⟩ := hSw; go_simp; rfl) | (obtain ⟨s1, s2⟩ := hSw; go_simp; rfl) | (have s1 := hSw; go_simp; rfl)
    go_simp
    refine wpAnyH_take (i := 2) (v := ?_) rfl (by kernel_rfl) (by kernel_rfl) (by kernel_rfl) (fun _ _ _ h => h) (Or.inl ⟨by rfl, ?_⟩) s7 ?_
    rotate_left
    · intro w hSw; first | (obtain ⟨s1, s2, s3, s4, s5, s6, s7, s8⟩ := hSw; go_simp; rfl) | (obtain ⟨s1, s2, s3, s4, s5, s6, s7⟩ := hSw; go_simp; rfl) | (obtain ⟨s1, s2, s3⟩ := hSw; go_simp; rfl) | (obtain ⟨s1, s2⟩ := hSw; go_simp; rfl) | (have s1 := hSw; go_simp; rfl)
    go_simp
    refine wpAnyH_take (i := 3) (v := ?_) rfl (by kernel_rfl) (by kernel_rfl) (by kernel_rfl) (fun _ _ _ h => h) (Or.inl ⟨by rfl, ?_⟩) s7 ?_
    rotate_left
    · intro w hSw; first | (obtain ⟨s1, s2, s3, s4, s5, s6, s7, s8⟩ := hSw; go_simp; rfl) | (obtain ⟨s1, s2, s3, s4, s5, s6, s7⟩ := hSw; go_simp; rfl) | (obtain ⟨s1, s2, s3⟩ := hSw; go_simp; rfl) | (obtain ⟨s1, s2⟩ := hSw; go_simp; rfl) | (have s1 := hSw; go_simp; rfl)
    go_simp
    refine wpAnyH_take (i := 4) (v := ?_) rfl (by kernel_rfl) (by kernel_rfl) (by kernel_rfl) (fun _ _ _ h => h) (Or.inl ⟨by rfl, ?_⟩) s7 ?_
    rotate_left
    · intro w hSw; first | (obtain ⟨s1, s2, s3, s4, s5, s6, s7, s8⟩ := hSw; go_simp; rfl) | (obtain ⟨s1, s2, s3, s4, s5, s6, s7⟩ := hSw; go_simp; rfl) | (obtain ⟨s1, s2, s3⟩ := hSw; go_simp; rfl) | (obtain ⟨s1, s2⟩ := hSw; go_simp; rfl) | (have s1 := hSw; go_simp; rfl)
    go_simp
    refine wpAnyH_take (i := 5) (v := ?_) rfl (by kernel_rfl) (by kernel_rfl) (by kernel_rfl) (fun _ _ _ h => h) (Or.inl ⟨by rfl, ?_⟩) s7 ?_
    rotate_left
    · intro w hSw; first | (obtain ⟨s1, s2, s3, s4, s5, s6, s7, s8⟩ := hSw; go_simp; rfl) | (obtain ⟨s1, s2, s3, s4, s5, s6, s7⟩ := hSw; go_simp; rfl) | (obtain ⟨s1, s2, s3⟩ := hSw; go_simp; rfl) | (obtain ⟨s1, s2⟩ := hSw; go_simp; rfl) | (have s1 := hSw; go_simp; rfl)
    go_simp
    refine wpAnyH_take (i := 6) (v := ?_) rfl (by kernel_rfl) (by kernel_rfl) (by kernel_rfl) (fun _ _ _ h => h) (Or.inl ⟨by rfl, ?_⟩) s7 ?_
    rotate_left
    · intro w hSw; first | (obtain ⟨s1, s2, s3, s4, s5, s6, s7, s8⟩ := hSw; go_simp; rfl) | (obtain ⟨s1, s2, s3, s4, s5, s6, s7⟩ := hSw; go_simp; rfl) | (obtain ⟨s1, s2, s3⟩ := hSw; go_simp; rfl) | (obtain ⟨s1, s2⟩ := hSw; go_simp; rfl) | (have s1 := hSw; go_simp; rfl)
    go_simp
    refine heldOne (i := 7) (by kernel_rfl) rfl (by rfl) (fun K hK => ?_)
    have ya := HFM7.out.fr.regD ha
    have yz := HFM7.out.fr.free
    go_simp
    have f8 := Fr34.set (fb := fb) (o := o) (w := w7) (i := o + 1 + a) (.int .u64 (Z : Nat)) (by omega) (by omega)
    have HFM8 := Lib.hid (HFM7.out.setReg ha hZ)
    have HREP8 := Lib.hid (HREP7.out.keep f8.fr (Ne.symm hap.1) (Ne.symm hap.2.1) (Ne.symm hap.2.2))
    have HF8 := Lib.hid ((HF7.out.mono (T := fun k => k = fb ∨ k = rb ∨ k = rhb) (fun _ _ h => .inr h)).trans (f8.fr.mono (fun _ _ h => .inl h)))
    have s8 : (w7.setCell ⟨fb, o + 1 + a, none⟩ (.int .u64 (Z : Nat))).cell? ⟨xb, 1, none⟩ = some (.int .i64 a) := by rw [cell_set_ne _ (.inl (by omega))]; exact s7
    refine hK.out _ _ s8 ?_
    clear hK K ya yz s7 f8
    refine wpAnyH_done (by kernel_rfl) ?_ _
    generalize w7.setCell ⟨fb, o + 1 + a, none⟩ (.int .u64 (Z : Nat)) = w8 at HFM8 HREP8 HF8 s8 ⊢
    have e0 : w8.cell? ⟨fb, o, none⟩ = some (.int .i64 k) := by rw [← HPC.out]; exact HFM8.out.fr.pc
    have zf : ∀ i, w8.frozen? ⟨fb, i, none⟩ = false := HFM8.out.fr.free
    clear s8
    go_wp2
    go_ret2
    have f9 := Fr34.set (fb := fb) (o := o) (w := w8) (.int .i64 ((k : Int) + 1)) (Nat.le_refl _) (by omega)
    exact ⟨_, _, rfl, HFIN.out _ _ _ rfl rfl (by rw [HPC.out]; exact HFM8.out.setPc _) (HREP8.out.keep f9.fr (Ne.symm hap.1) (Ne.symm hap.2.1) (Ne.symm hap.2.2)) (HF8.out.trans (f9.fr.mono (fun _ _ h => .inl h)))⟩
  | some x =>
    obtain ⟨q, kk⟩ := x
    obtain ⟨eb, rfl⟩ := HSF.out.at
    have e0 : w6.cell? ⟨fb, o, none⟩ = some (.int .i64 k) := by rw [← HPC.out]; exact HFM6.out.fr.pc
    go_wp2_with fail
    refine (in_any vmL k _ _ kk _ (failN_of HSF.out) (by simp)).mono ?_
    rintro e w7 ⟨f', rfl, hf7, hn7⟩
    have HFN := Lib.hid hf7
    have HREP7 := Lib.hid (HREP.out.keep hn7 id id id)
    have HFM7 := Lib.hid (HFM6.out.new hn7)
    have HF7 := Lib.hid (HF6.out.trans (hn7.mono (fun _ _ h => h.elim)))
    clear hf7 hn7 e0 y0
    go_wp2
    go_ret2
    exact ⟨_, _, rfl, HFIN.out _ _ _ rfl (by rw [HPC.out]; exact HFN.out) HFM7.out HREP7.out (HF7.out.mono (fun _ _ h => .inr h))⟩

end

end Go.Proofs.YtngpcalgjaglmaaDoor
