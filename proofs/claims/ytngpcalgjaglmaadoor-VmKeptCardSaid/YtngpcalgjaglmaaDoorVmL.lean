/- A step: an access of any cell, also of one that is not there. -/
import Derived.Test.YtngpcalgjaglmaaDoorVmG
import Derived.Test.YtngpcalgjaglmaaDoorMemK
import Derived.Test.YtngpcalgjaglmaaDoorErrE
namespace Go.Proofs.YtngpcalgjaglmaaDoor
open Go.RowKit

abbrev vmL : ByteArray := ⟨#[118, 109]⟩
set_option maxRecDepth 100000 in
set_option maxHeartbeats 400000 in
theorem vfail_in (n k : Int) (v : Value) (ps : List (ByteArray × Int)) (w : World) (hv : ErrIs w v ps k) :
    Calls Tryd.prog 29 #[.int .i64 n, v] w fun e w' => ∃ eb, e = .returned (.iface 88 (.pointer (some ⟨eb, 0, none⟩))) ∧ ErrIs w' (.iface 88 (.pointer (some ⟨eb, 0, none⟩))) ((vmL, n) :: ps) k ∧ New w w' := by
  have HV := Lib.hid hv
  rcases errIs_form hv with ⟨k', rfl⟩ | ⟨eb, rfl⟩
  all_goals
    clear hv
    go_enter Tryd.func29, Tryd.ntmps29
    go_wp2
    go_ret
    exact ⟨_, rfl, ⟨_, _, rfl, block_alloc_new _ _, HV.out.new ((Fr.refl _ _).alloc _)⟩, (Fr.refl _ _).alloc _⟩

/-- Which access; what is laid by it; what A's register is behind it. -/
def accK (op : Int) : Nat := if op = 17 then 0 else if op = 18 then 1 else if op = 19 then 2 else if op = 20 then 3 else 4
def accV (op C : Int) (a : Nat) (rs : List Nat) : Nat := if op = 21 then rs.getD C.toNat 0 else rs.getD a 0
def accY (op : Int) (a : Nat) (rs cs ws : List Nat) (p : Nat) : Nat := if op = 18 then rs.getD a 0 else accVal cs ws p

section
variable (fb o mb cb wb : Nat) (v : Value) (F : Fm) (cs ws : List Nat) (th ct : Nat) (cg co n cap k : Nat) (w : World)

theorem accV_fit {rs : List Nat} (h : ∀ x ∈ rs, x < 18446744073709551616) (op C : Int) (a : Nat) : accV op C a rs < 18446744073709551616 := by
  unfold accV
  split
  · exact getD_fit h _
  · exact getD_fit h _
theorem accVal_fit {w : World} {b cb wb : Nat} {cs ws : List Nat} {th ct : Nat} (h : MemRep w b cb wb cs ws th ct) (p : Nat) : accVal cs ws p < 18446744073709551616 := by
  unfold accVal
  split
  · omega
  · exact getD_fit h.fits p

/-- An access by an instruction, of any cell. -/
theorem access_each (op A B C : Int) (V : Nat) (M W : Int) (h : FmAt w fb o v F) (hm : MemRep w mb cb wb cs ws th ct) (hct : ct + 1 < 1000000000) (a : Nat) (hA : A = a) (ha : a < 32) (hV : V < 18446744073709551616) (ho : 17 ≤ op ∧ op ≤ 21) (hC : op = 21 → 0 ≤ C ∧ C < 32) :
    Calls Tryd.prog 28 #[.pointer (some ⟨fb, o, none⟩), insV op A B C V M W, memV mb] w fun e w' => ∃ er, e = .returned (.tuple #[.int .u64 (accY op a F.rs cs ws (adrN F.rs B V) : Nat), er]) ∧ Says w' memL er (accErr ws (adrN F.rs B V)) ∧
      MemRep w' mb cb wb (accCs (accK op) cs ws (adrN F.rs B V) (F.rs.getD a 0) (accV op C a F.rs)) ws th (accN ws (adrN F.rs B V) ct) ∧ Fr (fun k => accErr ws (adrN F.rs B V) = none ∧ (k = mb ∨ k = cb)) w w' := by
  subst hA
  have hp := adrN_fit (rs := F.rs) B hV
  have hx := getD_fit h.fr.fits a
  rcases (show op = 17 ∨ op = 18 ∨ op = 19 ∨ op = 20 ∨ op = 21 by omega) with rfl | rfl | rfl | rfl | rfl
  · refine (access_ld fb o mb F.pc F.rs v a B C V M W w h.fr ha hV (fun x er w'' => x = .int .u64 (accVal cs ws (adrN F.rs B V) : Nat) ∧ Says w'' memL er (accErr ws (adrN F.rs B V)) ∧ MemRep w'' mb cb wb (accCs 0 cs ws (adrN F.rs B V) 0 0) ws th (accN ws (adrN F.rs B V) ct) ∧ Fr (fun k => accErr ws (adrN F.rs B V) = none ∧ (k = mb ∨ k = cb)) w w'') (fun w' f => (load_all mb cb wb cs ws th ct _ w' (hm.keep f id id id) hct hp).mono fun e w'' ⟨x, h1, h2, h3, h4⟩ => ⟨_, _, h1, rfl, h2, h3, (f.mono (fun _ _ h => h.elim)).trans h4⟩)).mono ?_
    rintro e w' ⟨x, er, rfl, rfl, h2, h3, h4⟩
    exact ⟨er, rfl, h2, h3, h4⟩
  · refine (access_st fb o mb F.pc F.rs v a B C V M W w h.fr ha hV (fun er w'' => Says w'' memL er (accErr ws (adrN F.rs B V)) ∧ MemRep w'' mb cb wb (accCs 1 cs ws (adrN F.rs B V) 0 (F.rs.getD a 0)) ws th (accN ws (adrN F.rs B V) ct) ∧ Fr (fun k => accErr ws (adrN F.rs B V) = none ∧ (k = mb ∨ k = cb)) w w'') (fun w' f => (store_all mb cb wb cs ws th ct _ _ w' (hm.keep f id id id) hct hx hp).mono fun e w'' ⟨x, h1, h2, h3, h4⟩ => ⟨_, h1, h2, h3, (f.mono (fun _ _ h => h.elim)).trans h4⟩)).mono ?_
    rintro e w' ⟨er, rfl, h2, h3, h4⟩
    exact ⟨er, rfl, h2, h3, h4⟩
  · refine (access_swp fb o mb F.pc F.rs v a B C V M W w h.fr ha hV (fun x er w'' => x = .int .u64 (accVal cs ws (adrN F.rs B V) : Nat) ∧ Says w'' memL er (accErr ws (adrN F.rs B V)) ∧ MemRep w'' mb cb wb (accCs 2 cs ws (adrN F.rs B V) 0 (F.rs.getD a 0)) ws th (accN ws (adrN F.rs B V) ct) ∧ Fr (fun k => accErr ws (adrN F.rs B V) = none ∧ (k = mb ∨ k = cb)) w w'') (fun w' f => (swap_all mb cb wb cs ws th ct _ _ w' (hm.keep f id id id) hct hx hp).mono fun e w'' ⟨x, h1, h2, h3, h4⟩ => ⟨_, _, h1, rfl, h2, h3, (f.mono (fun _ _ h => h.elim)).trans h4⟩)).mono ?_
    rintro e w' ⟨x, er, rfl, rfl, h2, h3, h4⟩
    exact ⟨er, rfl, h2, h3, h4⟩
  · refine (access_fad fb o mb F.pc F.rs v a B C V M W w h.fr ha hV (fun x er w'' => x = .int .u64 (accVal cs ws (adrN F.rs B V) : Nat) ∧ Says w'' memL er (accErr ws (adrN F.rs B V)) ∧ MemRep w'' mb cb wb (accCs 3 cs ws (adrN F.rs B V) 0 (F.rs.getD a 0)) ws th (accN ws (adrN F.rs B V) ct) ∧ Fr (fun k => accErr ws (adrN F.rs B V) = none ∧ (k = mb ∨ k = cb)) w w'') (fun w' f => (add_all mb cb wb cs ws th ct _ _ w' (hm.keep f id id id) hct hx hp).mono fun e w'' ⟨x, h1, h2, h3, h4⟩ => ⟨_, _, h1, rfl, h2, h3, (f.mono (fun _ _ h => h.elim)).trans h4⟩)).mono ?_
    rintro e w' ⟨x, er, rfl, rfl, h2, h3, h4⟩
    exact ⟨er, rfl, h2, h3, h4⟩
  · obtain ⟨hC1, hC2⟩ := hC rfl
    obtain ⟨c, rfl⟩ := Int.eq_ofNat_of_zero_le hC1
    have hy := getD_fit h.fr.fits c
    refine (access_cas fb o mb F.pc F.rs v a B c V M W w h.fr ha (by omega) hV (fun x er w'' => x = .int .u64 (accVal cs ws (adrN F.rs B V) : Nat) ∧ Says w'' memL er (accErr ws (adrN F.rs B V)) ∧ MemRep w'' mb cb wb (accCs 4 cs ws (adrN F.rs B V) (F.rs.getD a 0) (F.rs.getD c 0)) ws th (accN ws (adrN F.rs B V) ct) ∧ Fr (fun k => accErr ws (adrN F.rs B V) = none ∧ (k = mb ∨ k = cb)) w w'') (fun w' f => (cas_all mb cb wb cs ws th ct _ _ _ w' (hm.keep f id id id) hct hx hy hp).mono fun e w'' ⟨x, h1, h2, h3, h4⟩ => ⟨_, _, h1, rfl, h2, h3, (f.mono (fun _ _ h => h.elim)).trans h4⟩)).mono ?_
    rintro e w' ⟨x, er, rfl, rfl, h2, h3, h4⟩
    exact ⟨er, rfl, h2, h3, h4⟩

/-- What comes of a step that accesses a cell. -/
structure AccRes (w : World) (fb o mb cb wb : Nat) (v : Value) (F : Fm) (cs ws : List Nat) (th ct : Nat) (op : Int) (a : Nat) (B C : Int) (V : Nat) (r er : Value) (w' : World) : Prop where
  res : r = .int .i64 (if accErr ws (adrN F.rs B V) = none then 0 else 3)
  err : Tells w' er (inL vmL F.pc memL (accErr ws (adrN F.rs B V)))
  fm : FmAt w' fb o v (if accErr ws (adrN F.rs B V) = none then ⟨F.pc + 1, F.rs.set a (accY op a F.rs cs ws (adrN F.rs B V)), F.bk⟩ else F)
  mem : MemRep w' mb cb wb (accCs (accK op) cs ws (adrN F.rs B V) (F.rs.getD a 0) (accV op C a F.rs)) ws th (accN ws (adrN F.rs B V) ct)
  fr : Fr (fun k => k = fb ∨ k = mb ∨ k = cb) w w'

set_option maxRecDepth 100000 in
set_option maxHeartbeats 8000000 in
theorem step_acc17 (a : Nat) (B C : Int) (V : Nat) (M W : Int) (h : FmAt w fb o v F) (hi : InsAt w cg co k 17 a B C V M W) (hk : k < n) (hn : n ≤ 1000000) (hV : V < 18446744073709551616) (hpc : F.pc = k) (hg : goodV 17 a B C V n = true) (ha : a < 32) (hC : (17 : Int) = 21 → 0 ≤ C ∧ C < 32)
    (hm : MemRep w mb cb wb cs ws th ct) (hct : ct + 1 < 1000000000) (hap : fb ≠ mb ∧ fb ≠ cb ∧ fb ≠ wb) (hvp : v.ownBlock ≠ some mb ∧ v.ownBlock ≠ some cb) :
    Calls Tryd.prog 10 #[.pointer (some ⟨fb, o, none⟩), .slice (some ⟨cg, co, none⟩) n cap, memV mb] w fun e w' => ∃ r er, e = .returned (.tuple #[r, er]) ∧ AccRes w fb o mb cb wb v F cs ws th ct 17 a B C V r er w' := by
  have c0 := h.fr.pc
  have hl := h.fr.lt
  rw [hpc] at c0
  have HM := Lib.hid (fun w' => vmay_any 17 a B C V M W n w' hV (by omega) (by omega))
  unfold goodV at hg
  rw [hg] at HM
  have HI := Lib.hid hi
  have HAC := Lib.hid (fun w' (f : New w w') => access_each fb o mb cb wb v F cs ws th ct w' 17 a B C V M W (h.new f) (hm.keep f id id id) hct a rfl ha hV (by omega) hC)
  have HFIN := Lib.hid (fun (r er : Value) (w' : World) h1 h2 h3 h4 h5 => AccRes.mk (w := w) (fb := fb) (o := o) (mb := mb) (cb := cb) (wb := wb) (v := v) (F := F) (cs := cs) (ws := ws) (th := th) (ct := ct) (op := 17) (a := a) (B := B) (C := C) (V := V) (r := r) (er := er) (w' := w') h1 h2 h3 h4 h5)
  obtain ⟨hm1, hm2, hm3⟩ := show mb < w.heap.size ∧ cb < w.heap.size ∧ wb < w.heap.size from ⟨hm.hd.lt, hm.cells.lt, hm.widths.lt⟩
  have hX : accY 17 a F.rs cs ws (adrN F.rs B V) < 18446744073709551616 := by
    unfold accY
    split
    · exact getD_fit h.fr.fits _
    · exact accVal_fit hm _
  generalize accY 17 a F.rs cs ws (adrN F.rs B V) = X at HAC HFIN hX
  generalize accCs (accK 17) cs ws (adrN F.rs B V) (F.rs.getD a 0) (accV 17 C a F.rs) = cs' at HAC HFIN
  generalize accN ws (adrN F.rs B V) ct = ct' at HAC HFIN
  generalize accErr ws (adrN F.rs B V) = oe at HAC HFIN
  obtain ⟨_, x0, x1, x2, x3, x4, x5, x6⟩ := hi
  have q1 : (0 : Int) ≤ (k : Int) := by omega
  have q2 : (k : Int) < (n : Int) := by omega
  have q3 : (0 : Int) ≤ (a : Int) := by omega
  have q4 : (a : Int) < 32 := by omega
  have t1 : IntKind.i64.wrap ((k : Int) + 1) = (k : Int) + 1 := IntWalk.i64_in _ (by omega)
  have H := Lib.hid h
  have HPC := Lib.hid hpc
  have HVP := Lib.hid hvp
  clear h hg hpc hm hct hvp hC
  cases oe with
  | none =>
    go_enter Tryd.func10, Tryd.ntmps10
    go_wp2_with fail
    refine (HM.out _).mono ?_
    rintro e w1 ⟨rfl, hn1⟩
    obtain ⟨_, y0, y1, y2, y3, y4, y5, y6⟩ := HI.out.keep hn1 id
    have d0 := (hn1.cell hl id _).trans c0
    have HN1 := Lib.hid hn1
    clear c0 x0 x1 x2 x3 x4 x5 x6 hn1
    go_wp2_with fail
    obtain ⟨W0, hW0⟩ : ∃ W0, w1.alloc (.cells #[.int .i64 17, .int .i64 a, .int .i64 B, .int .i64 C, .int .u64 V, .int .i64 M, .int .i64 W] 52) = W0 := ⟨_, rfl⟩
    have hn0 : New w W0 := by rw [← hW0]; exact HN1.out.alloc _
    have hb0 : W0.heap[w1.heap.size]? = some (.cells #[.int .i64 17, .int .i64 a, .int .i64 B, .int .i64 C, .int .u64 V, .int .i64 M, .int .i64 W] 52 (0, 0)) := by rw [← hW0]; exact block_alloc_new _ _
    have hwx : w.heap.size ≤ w1.heap.size := HN1.out.size
    obtain ⟨xb, hxb⟩ : ∃ xb, w1.heap.size = xb := ⟨_, rfl⟩
    rw [hxb] at hb0 hwx ⊢
    have hxl := lt_of_block hb0
    rw [hW0]
    have HN0 := Lib.hid hn0
    have HB0 := Lib.hid hb0
    clear hW0 hn0 hb0 d0 y0 y1 y2 y3 y4 y5 y6 hxb
    refine (HAC.out W0 HN0.out).mono ?_
    rintro e w2 ⟨er, rfl, hsy, hmr, hf⟩
    obtain rfl : er = .nilIface := hsy
    have hfm := (H.out.new HN0.out).keep hf (fun e => by obtain ⟨_, e⟩ := e; omega) (fun i hi e => by
      obtain ⟨_, rfl | rfl⟩ := e
      · exact HVP.out.1 hi
      · exact HVP.out.2 hi)
    have hb2 := (hf.block xb hxl (fun e => by obtain ⟨_, e⟩ := e; omega)).trans HB0.out
    have HFM := Lib.hid hfm
    have HB2 := Lib.hid hb2
    have HMR := Lib.hid hmr
    have HF := Lib.hid ((HN0.out.mono (T := fun k => k = fb ∨ k = mb ∨ k = cb) (fun _ _ h => h.elim)).trans (hf.mono (fun _ _ h => .inr h.2)))
    clear hfm hb2 hmr hf
    have b1 : w2.cell? ⟨xb, 1, none⟩ = some (.int .i64 a) := cell_of_block HB2.out 1
    go_wp2_with fail
    have s0 : w2.drew.cell? ⟨xb, 1, none⟩ = some (.int .i64 a) := b1
    refine heldStart (fun wz => wz.cell? ⟨xb, 1, none⟩ = some (.int .i64 a)) (by kernel_rfl) ?_
    have n2 : New w2 w2.drew := (Fr.refl _ _).drew
    have HFM2 := Lib.hid (HFM.out.new n2)
    have HFR2 := Lib.hid (Fr34.new (o := o) HFM.out.fr.lt n2)
    have hxf : xb ≠ fb := by omega
    clear b1
    generalize w2.drew = w3 at s0 HFM2 HFR2 n2 ⊢
    refine wpAnyH_take (i := 0) (v := ?_) rfl (by kernel_rfl) (by kernel_rfl) (by kernel_rfl) (fun _ _ _ h => h) (Or.inl ⟨by rfl, ?_⟩) s0 ?_
    rotate_left
    · intro w hSw; first | (obtain ⟨s1, s2, s3, s4, s5, s6, s7, s8⟩ := hSw; go_simp; rfl) | (obtain ⟨s1, s2, s3, s4, s5, s6, s7⟩ := hSw; go_simp; rfl) | (obtain ⟨s1, s2, s3⟩ := hSw; go_simp; rfl) | (obtain ⟨s1, s2⟩ := hSw; go_simp; rfl) | (have s1 := hSw; go_simp; rfl)
    go_simp
    refine wpAnyH_take (i := 1) (v := ?_) rfl (by kernel_rfl) (by kernel_rfl) (by kernel_rfl) (fun _ _ _ h => h) (Or.inl ⟨by rfl, ?_⟩) s0 ?_
    rotate_left
    · intro w hSw; first | (obtain ⟨s1, s2, s3, s4, s5, s6, s7, s8⟩ := hSw; go_simp; rfl) | (obtain ⟨s1, s2, s3, s4, s5, s6, s7⟩ := hSw; go_simp; rfl) | (obtain ⟨s1, s2, s3⟩ := hSw; go_simp; rfl) | (obtain ⟨s1, s2⟩ := hSw; go_simp; rfl) | (have s1 := hSw; go_simp; rfl)
    go_simp
    refine wpAnyH_take (i := 2) (v := ?_) rfl (by kernel_rfl) (by kernel_rfl) (by kernel_rfl) (fun _ _ _ h => h) (Or.inl ⟨by rfl, ?_⟩) s0 ?_
    rotate_left
    · intro w hSw; first | (obtain ⟨s1, s2, s3, s4, s5, s6, s7, s8⟩ := hSw; go_simp; rfl) | (obtain ⟨s1, s2, s3, s4, s5, s6, s7⟩ := hSw; go_simp; rfl) | (obtain ⟨s1, s2, s3⟩ := hSw; go_simp; rfl) | (obtain ⟨s1, s2⟩ := hSw; go_simp; rfl) | (have s1 := hSw; go_simp; rfl)
    go_simp
    refine wpAnyH_take (i := 3) (v := ?_) rfl (by kernel_rfl) (by kernel_rfl) (by kernel_rfl) (fun _ _ _ h => h) (Or.inl ⟨by rfl, ?_⟩) s0 ?_
    rotate_left
    · intro w hSw; first | (obtain ⟨s1, s2, s3, s4, s5, s6, s7, s8⟩ := hSw; go_simp; rfl) | (obtain ⟨s1, s2, s3, s4, s5, s6, s7⟩ := hSw; go_simp; rfl) | (obtain ⟨s1, s2, s3⟩ := hSw; go_simp; rfl) | (obtain ⟨s1, s2⟩ := hSw; go_simp; rfl) | (have s1 := hSw; go_simp; rfl)
    go_simp
    refine wpAnyH_take (i := 4) (v := ?_) rfl (by kernel_rfl) (by kernel_rfl) (by kernel_rfl) (fun _ _ _ h => h) (Or.inl ⟨by rfl, ?_⟩) s0 ?_
    rotate_left
    · intro w hSw; first | (obtain ⟨s1, s2, s3, s4, s5, s6, s7, s8⟩ := hSw; go_simp; rfl) | (obtain ⟨s1, s2, s3, s4, s5, s6, s7⟩ := hSw; go_simp; rfl) | (obtain ⟨s1, s2, s3⟩ := hSw; go_simp; rfl) | (obtain ⟨s1, s2⟩ := hSw; go_simp; rfl) | (have s1 := hSw; go_simp; rfl)
    go_simp
    refine wpAnyH_take (i := 5) (v := ?_) rfl (by kernel_rfl) (by kernel_rfl) (by kernel_rfl) (fun _ _ _ h => h) (Or.inl ⟨by rfl, ?_⟩) s0 ?_
    rotate_left
    · intro w hSw; first | (obtain ⟨s1, s2, s3, s4, s5, s6, s7, s8⟩ := hSw; go_simp; rfl) | (obtain ⟨s1, s2, s3, s4, s5, s6, s7⟩ := hSw; go_simp; rfl) | (obtain ⟨s1, s2, s3⟩ := hSw; go_simp; rfl) | (obtain ⟨s1, s2⟩ := hSw; go_simp; rfl) | (have s1 := hSw; go_simp; rfl)
    go_simp
    refine wpAnyH_take (i := 6) (v := ?_) rfl (by kernel_rfl) (by kernel_rfl) (by kernel_rfl) (fun _ _ _ h => h) (Or.inl ⟨by rfl, ?_⟩) s0 ?_
    rotate_left
    · intro w hSw; first | (obtain ⟨s1, s2, s3, s4, s5, s6, s7, s8⟩ := hSw; go_simp; rfl) | (obtain ⟨s1, s2, s3, s4, s5, s6, s7⟩ := hSw; go_simp; rfl) | (obtain ⟨s1, s2, s3⟩ := hSw; go_simp; rfl) | (obtain ⟨s1, s2⟩ := hSw; go_simp; rfl) | (have s1 := hSw; go_simp; rfl)
    go_simp
    refine heldOne (i := 7) (by kernel_rfl) rfl (by rfl) (fun K hK => ?_)
    have ya := HFM2.out.fr.regD ha
    have yz := HFM2.out.fr.free
    go_simp
    have HS5 := Lib.hid (HFM2.out.setReg ha hX)
    have HF5 := Lib.hid (HFR2.out.trans (Fr34.set (fb := fb) (o := o) (i := o + 1 + a) (.int .u64 (X : Nat)) (by omega) (by omega)))
    have s5 : (w3.setCell ⟨fb, o + 1 + a, none⟩ (.int .u64 (X : Nat))).cell? ⟨xb, 1, none⟩ = some (.int .i64 a) := by rw [cell_set_ne _ (.inl (Ne.symm hxf))]; exact s0
    refine hK.out _ _ s5 ?_
    clear hK ya yz
    refine wpAnyH_done (by kernel_rfl) ?_ _
    clear s0 n2
    generalize w3.setCell ⟨fb, o + 1 + a, none⟩ (.int .u64 (X : Nat)) = w5 at HS5 HF5 s5 ⊢
    have d0 : w5.cell? ⟨fb, o, none⟩ = some (.int .i64 k) := by rw [← HPC.out]; exact HS5.out.fr.pc
    have zf : ∀ i, w5.frozen? ⟨fb, i, none⟩ = false := HS5.out.fr.free
    clear s5
    go_wp2
    go_ret2
    have f5 := HF5.out.trans (Fr34.set (.int .i64 ((k : Int) + 1)) (Nat.le_refl _) (by omega))
    exact ⟨_, _, rfl, HFIN.out _ _ _ rfl rfl (by rw [HPC.out]; exact HS5.out.setPc _) (HMR.out.keep f5.fr (Ne.symm hap.1) (Ne.symm hap.2.1) (Ne.symm hap.2.2)) (HF.out.trans (f5.fr.mono (fun _ _ h => .inl h)))⟩
  | some x =>
    obtain ⟨q, kk⟩ := x
    go_enter Tryd.func10, Tryd.ntmps10
    go_wp2_with fail
    refine (HM.out _).mono ?_
    rintro e w1 ⟨rfl, hn1⟩
    obtain ⟨_, y0, y1, y2, y3, y4, y5, y6⟩ := HI.out.keep hn1 id
    have d0 := (hn1.cell hl id _).trans c0
    have HN1 := Lib.hid hn1
    clear c0 x0 x1 x2 x3 x4 x5 x6 hn1
    go_wp2_with fail
    obtain ⟨W0, hW0⟩ : ∃ W0, w1.alloc (.cells #[.int .i64 17, .int .i64 a, .int .i64 B, .int .i64 C, .int .u64 V, .int .i64 M, .int .i64 W] 52) = W0 := ⟨_, rfl⟩
    have hn0 : New w W0 := by rw [← hW0]; exact HN1.out.alloc _
    rw [hW0]
    have HN0 := Lib.hid hn0
    clear hW0 hn0 d0 y0 y1 y2 y3 y4 y5 y6
    refine (HAC.out W0 HN0.out).mono ?_
    rintro e w2 ⟨er, rfl, hsy, hmr, hf⟩
    obtain ⟨eb, rfl⟩ := hsy.at
    have hn2 : New w w2 := HN0.out.trans (hf.mono (fun _ _ h => by cases h.1))
    have d0 := (hn2.cell hl id o).trans H.out.fr.pc
    rw [HPC.out] at d0
    have HV := Lib.hid hsy
    have HN2 := Lib.hid hn2
    have HMR := Lib.hid hmr
    clear hsy hmr hf hn2
    go_wp2_with fail
    refine (vfail_in k kk _ _ _ HV.out.1).mono ?_
    rintro e w3 ⟨eb3, rfl, he3, hn3⟩
    have HE3 := Lib.hid he3
    have HN3 := Lib.hid (HN2.out.trans hn3)
    have HMR3 := Lib.hid (HMR.out.keep hn3 id id id)
    clear he3 hn3
    go_wp2
    go_ret2
    exact ⟨_, _, rfl, HFIN.out _ _ _ rfl (by rw [HPC.out]; exact ⟨HE3.out, HV.out.2⟩) (H.out.new HN3.out) HMR3.out (HN3.out.mono (fun _ _ h => h.elim))⟩
set_option maxRecDepth 100000 in
set_option maxHeartbeats 8000000 in
theorem step_acc18 (a : Nat) (B C : Int) (V : Nat) (M W : Int) (h : FmAt w fb o v F) (hi : InsAt w cg co k 18 a B C V M W) (hk : k < n) (hn : n ≤ 1000000) (hV : V < 18446744073709551616) (hpc : F.pc = k) (hg : goodV 18 a B C V n = true) (ha : a < 32) (hC : (18 : Int) = 21 → 0 ≤ C ∧ C < 32)
    (hm : MemRep w mb cb wb cs ws th ct) (hct : ct + 1 < 1000000000) (hap : fb ≠ mb ∧ fb ≠ cb ∧ fb ≠ wb) (hvp : v.ownBlock ≠ some mb ∧ v.ownBlock ≠ some cb) :
    Calls Tryd.prog 10 #[.pointer (some ⟨fb, o, none⟩), .slice (some ⟨cg, co, none⟩) n cap, memV mb] w fun e w' => ∃ r er, e = .returned (.tuple #[r, er]) ∧ AccRes w fb o mb cb wb v F cs ws th ct 18 a B C V r er w' := by
  have c0 := h.fr.pc
  have hl := h.fr.lt
  rw [hpc] at c0
  have HM := Lib.hid (fun w' => vmay_any 18 a B C V M W n w' hV (by omega) (by omega))
  unfold goodV at hg
  rw [hg] at HM
  have HI := Lib.hid hi
  have HAC := Lib.hid (fun w' (f : New w w') => access_each fb o mb cb wb v F cs ws th ct w' 18 a B C V M W (h.new f) (hm.keep f id id id) hct a rfl ha hV (by omega) hC)
  have HFIN := Lib.hid (fun (r er : Value) (w' : World) h1 h2 h3 h4 h5 => AccRes.mk (w := w) (fb := fb) (o := o) (mb := mb) (cb := cb) (wb := wb) (v := v) (F := F) (cs := cs) (ws := ws) (th := th) (ct := ct) (op := 18) (a := a) (B := B) (C := C) (V := V) (r := r) (er := er) (w' := w') h1 h2 h3 h4 h5)
  obtain ⟨hm1, hm2, hm3⟩ := show mb < w.heap.size ∧ cb < w.heap.size ∧ wb < w.heap.size from ⟨hm.hd.lt, hm.cells.lt, hm.widths.lt⟩
  have hX : accY 18 a F.rs cs ws (adrN F.rs B V) < 18446744073709551616 := by
    unfold accY
    split
    · exact getD_fit h.fr.fits _
    · exact accVal_fit hm _
  generalize accY 18 a F.rs cs ws (adrN F.rs B V) = X at HAC HFIN hX
  generalize accCs (accK 18) cs ws (adrN F.rs B V) (F.rs.getD a 0) (accV 18 C a F.rs) = cs' at HAC HFIN
  generalize accN ws (adrN F.rs B V) ct = ct' at HAC HFIN
  generalize accErr ws (adrN F.rs B V) = oe at HAC HFIN
  obtain ⟨_, x0, x1, x2, x3, x4, x5, x6⟩ := hi
  have q1 : (0 : Int) ≤ (k : Int) := by omega
  have q2 : (k : Int) < (n : Int) := by omega
  have q3 : (0 : Int) ≤ (a : Int) := by omega
  have q4 : (a : Int) < 32 := by omega
  have t1 : IntKind.i64.wrap ((k : Int) + 1) = (k : Int) + 1 := IntWalk.i64_in _ (by omega)
  have H := Lib.hid h
  have HPC := Lib.hid hpc
  have HVP := Lib.hid hvp
  clear h hg hpc hm hct hvp hC
  cases oe with
  | none =>
    go_enter Tryd.func10, Tryd.ntmps10
    go_wp2_with fail
    refine (HM.out _).mono ?_
    rintro e w1 ⟨rfl, hn1⟩
    obtain ⟨_, y0, y1, y2, y3, y4, y5, y6⟩ := HI.out.keep hn1 id
    have d0 := (hn1.cell hl id _).trans c0
    have HN1 := Lib.hid hn1
    clear c0 x0 x1 x2 x3 x4 x5 x6 hn1
    go_wp2_with fail
    obtain ⟨W0, hW0⟩ : ∃ W0, w1.alloc (.cells #[.int .i64 18, .int .i64 a, .int .i64 B, .int .i64 C, .int .u64 V, .int .i64 M, .int .i64 W] 52) = W0 := ⟨_, rfl⟩
    have hn0 : New w W0 := by rw [← hW0]; exact HN1.out.alloc _
    have hb0 : W0.heap[w1.heap.size]? = some (.cells #[.int .i64 18, .int .i64 a, .int .i64 B, .int .i64 C, .int .u64 V, .int .i64 M, .int .i64 W] 52 (0, 0)) := by rw [← hW0]; exact block_alloc_new _ _
    have hwx : w.heap.size ≤ w1.heap.size := HN1.out.size
    obtain ⟨xb, hxb⟩ : ∃ xb, w1.heap.size = xb := ⟨_, rfl⟩
    rw [hxb] at hb0 hwx ⊢
    have hxl := lt_of_block hb0
    rw [hW0]
    have HN0 := Lib.hid hn0
    have HB0 := Lib.hid hb0
    clear hW0 hn0 hb0 d0 y0 y1 y2 y3 y4 y5 y6 hxb
    refine (HAC.out W0 HN0.out).mono ?_
    rintro e w2 ⟨er, rfl, hsy, hmr, hf⟩
    obtain rfl : er = .nilIface := hsy
    have hfm := (H.out.new HN0.out).keep hf (fun e => by obtain ⟨_, e⟩ := e; omega) (fun i hi e => by
      obtain ⟨_, rfl | rfl⟩ := e
      · exact HVP.out.1 hi
      · exact HVP.out.2 hi)
    have hb2 := (hf.block xb hxl (fun e => by obtain ⟨_, e⟩ := e; omega)).trans HB0.out
    have HFM := Lib.hid hfm
    have HB2 := Lib.hid hb2
    have HMR := Lib.hid hmr
    have HF := Lib.hid ((HN0.out.mono (T := fun k => k = fb ∨ k = mb ∨ k = cb) (fun _ _ h => h.elim)).trans (hf.mono (fun _ _ h => .inr h.2)))
    clear hfm hb2 hmr hf
    have b1 : w2.cell? ⟨xb, 1, none⟩ = some (.int .i64 a) := cell_of_block HB2.out 1
    go_wp2_with fail
    have s0 : w2.drew.cell? ⟨xb, 1, none⟩ = some (.int .i64 a) := b1
    refine heldStart (fun wz => wz.cell? ⟨xb, 1, none⟩ = some (.int .i64 a)) (by kernel_rfl) ?_
    have n2 : New w2 w2.drew := (Fr.refl _ _).drew
    have HFM2 := Lib.hid (HFM.out.new n2)
    have HFR2 := Lib.hid (Fr34.new (o := o) HFM.out.fr.lt n2)
    have hxf : xb ≠ fb := by omega
    clear b1
    generalize w2.drew = w3 at s0 HFM2 HFR2 n2 ⊢
    refine wpAnyH_take (i := 0) (v := ?_) rfl (by kernel_rfl) (by kernel_rfl) (by kernel_rfl) (fun _ _ _ h => h) (Or.inl ⟨by rfl, ?_⟩) s0 ?_
    rotate_left
    · intro w hSw; first | (obtain ⟨s1, s2, s3, s4, s5, s6, s7, s8⟩ := hSw; go_simp; rfl) | (obtain ⟨s1, s2, s3, s4, s5, s6, s7⟩ := hSw; go_simp; rfl) | (obtain ⟨s1, s2, s3⟩ := hSw; go_simp; rfl) | (obtain ⟨s1, s2⟩ := hSw; go_simp; rfl) | (have s1 := hSw; go_simp; rfl)
    go_simp
    refine wpAnyH_take (i := 1) (v := ?_) rfl (by kernel_rfl) (by kernel_rfl) (by kernel_rfl) (fun _ _ _ h => h) (Or.inl ⟨by rfl, ?_⟩) s0 ?_
    rotate_left
    · intro w hSw; first | (obtain ⟨s1, s2, s3, s4, s5, s6, s7, s8⟩ := hSw; go_simp; rfl) | (obtain ⟨s1, s2, s3, s4, s5, s6, s7⟩ := hSw; go_simp; rfl) | (obtain ⟨s1, s2, s3⟩ := hSw; go_simp; rfl) | (obtain ⟨s1, s2⟩ := hSw; go_simp; rfl) | (have s1 := hSw; go_simp; rfl)
    go_simp
    refine wpAnyH_take (i := 2) (v := ?_) rfl (by kernel_rfl) (by kernel_rfl) (by kernel_rfl) (fun _ _ _ h => h) (Or.inl ⟨by rfl, ?_⟩) s0 ?_
    rotate_left
    · intro w hSw; first | (obtain ⟨s1, s2, s3, s4, s5, s6, s7, s8⟩ := hSw; go_simp; rfl) | (obtain ⟨s1, s2, s3, s4, s5, s6, s7⟩ := hSw; go_simp; rfl) | (obtain ⟨s1, s2, s3⟩ := hSw; go_simp; rfl) | (obtain ⟨s1, s2⟩ := hSw; go_simp; rfl) | (have s1 := hSw; go_simp; rfl)
    go_simp
    refine wpAnyH_take (i := 3) (v := ?_) rfl (by kernel_rfl) (by kernel_rfl) (by kernel_rfl) (fun _ _ _ h => h) (Or.inl ⟨by rfl, ?_⟩) s0 ?_
    rotate_left
    · intro w hSw; first | (obtain ⟨s1, s2, s3, s4, s5, s6, s7, s8⟩ := hSw; go_simp; rfl) | (obtain ⟨s1, s2, s3, s4, s5, s6, s7⟩ := hSw; go_simp; rfl) | (obtain ⟨s1, s2, s3⟩ := hSw; go_simp; rfl) | (obtain ⟨s1, s2⟩ := hSw; go_simp; rfl) | (have s1 := hSw; go_simp; rfl)
    go_simp
    refine wpAnyH_take (i := 4) (v := ?_) rfl (by kernel_rfl) (by kernel_rfl) (by kernel_rfl) (fun _ _ _ h => h) (Or.inl ⟨by rfl, ?_⟩) s0 ?_
    rotate_left
    · intro w hSw; first | (obtain ⟨s1, s2, s3, s4, s5, s6, s7, s8⟩ := hSw; go_simp; rfl) | (obtain ⟨s1, s2, s3, s4, s5, s6, s7⟩ := hSw; go_simp; rfl) | (obtain ⟨s1, s2, s3⟩ := hSw; go_simp; rfl) | (obtain ⟨s1, s2⟩ := hSw; go_simp; rfl) | (have s1 := hSw; go_simp; rfl)
    go_simp
    refine wpAnyH_take (i := 5) (v := ?_) rfl (by kernel_rfl) (by kernel_rfl) (by kernel_rfl) (fun _ _ _ h => h) (Or.inl ⟨by rfl, ?_⟩) s0 ?_
    rotate_left
    · intro w hSw; first | (obtain ⟨s1, s2, s3, s4, s5, s6, s7, s8⟩ := hSw; go_simp; rfl) | (obtain ⟨s1, s2, s3, s4, s5, s6, s7⟩ := hSw; go_simp; rfl) | (obtain ⟨s1, s2, s3⟩ := hSw; go_simp; rfl) | (obtain ⟨s1, s2⟩ := hSw; go_simp; rfl) | (have s1 := hSw; go_simp; rfl)
    go_simp
    refine wpAnyH_take (i := 6) (v := ?_) rfl (by kernel_rfl) (by kernel_rfl) (by kernel_rfl) (fun _ _ _ h => h) (Or.inl ⟨by rfl, ?_⟩) s0 ?_
    rotate_left
    · intro w hSw; first | (obtain ⟨s1, s2, s3, s4, s5, s6, s7, s8⟩ := hSw; go_simp; rfl) | (obtain ⟨s1, s2, s3, s4, s5, s6, s7⟩ := hSw; go_simp; rfl) | (obtain ⟨s1, s2, s3⟩ := hSw; go_simp; rfl) | (obtain ⟨s1, s2⟩ := hSw; go_simp; rfl) | (have s1 := hSw; go_simp; rfl)
    go_simp
    refine heldOne (i := 7) (by kernel_rfl) rfl (by rfl) (fun K hK => ?_)
    have ya := HFM2.out.fr.regD ha
    have yz := HFM2.out.fr.free
    go_simp
    have HS5 := Lib.hid (HFM2.out.setReg ha hX)
    have HF5 := Lib.hid (HFR2.out.trans (Fr34.set (fb := fb) (o := o) (i := o + 1 + a) (.int .u64 (X : Nat)) (by omega) (by omega)))
    have s5 : (w3.setCell ⟨fb, o + 1 + a, none⟩ (.int .u64 (X : Nat))).cell? ⟨xb, 1, none⟩ = some (.int .i64 a) := by rw [cell_set_ne _ (.inl (Ne.symm hxf))]; exact s0
    refine hK.out _ _ s5 ?_
    clear hK ya yz
    refine wpAnyH_done (by kernel_rfl) ?_ _
    clear s0 n2
    generalize w3.setCell ⟨fb, o + 1 + a, none⟩ (.int .u64 (X : Nat)) = w5 at HS5 HF5 s5 ⊢
    have d0 : w5.cell? ⟨fb, o, none⟩ = some (.int .i64 k) := by rw [← HPC.out]; exact HS5.out.fr.pc
    have zf : ∀ i, w5.frozen? ⟨fb, i, none⟩ = false := HS5.out.fr.free
    clear s5
    go_wp2
    go_ret2
    have f5 := HF5.out.trans (Fr34.set (.int .i64 ((k : Int) + 1)) (Nat.le_refl _) (by omega))
    exact ⟨_, _, rfl, HFIN.out _ _ _ rfl rfl (by rw [HPC.out]; exact HS5.out.setPc _) (HMR.out.keep f5.fr (Ne.symm hap.1) (Ne.symm hap.2.1) (Ne.symm hap.2.2)) (HF.out.trans (f5.fr.mono (fun _ _ h => .inl h)))⟩
  | some x =>
    obtain ⟨q, kk⟩ := x
    go_enter Tryd.func10, Tryd.ntmps10
    go_wp2_with fail
    refine (HM.out _).mono ?_
    rintro e w1 ⟨rfl, hn1⟩
    obtain ⟨_, y0, y1, y2, y3, y4, y5, y6⟩ := HI.out.keep hn1 id
    have d0 := (hn1.cell hl id _).trans c0
    have HN1 := Lib.hid hn1
    clear c0 x0 x1 x2 x3 x4 x5 x6 hn1
    go_wp2_with fail
    obtain ⟨W0, hW0⟩ : ∃ W0, w1.alloc (.cells #[.int .i64 18, .int .i64 a, .int .i64 B, .int .i64 C, .int .u64 V, .int .i64 M, .int .i64 W] 52) = W0 := ⟨_, rfl⟩
    have hn0 : New w W0 := by rw [← hW0]; exact HN1.out.alloc _
    rw [hW0]
    have HN0 := Lib.hid hn0
    clear hW0 hn0 d0 y0 y1 y2 y3 y4 y5 y6
    refine (HAC.out W0 HN0.out).mono ?_
    rintro e w2 ⟨er, rfl, hsy, hmr, hf⟩
    obtain ⟨eb, rfl⟩ := hsy.at
    have hn2 : New w w2 := HN0.out.trans (hf.mono (fun _ _ h => by cases h.1))
    have d0 := (hn2.cell hl id o).trans H.out.fr.pc
    rw [HPC.out] at d0
    have HV := Lib.hid hsy
    have HN2 := Lib.hid hn2
    have HMR := Lib.hid hmr
    clear hsy hmr hf hn2
    go_wp2_with fail
    refine (vfail_in k kk _ _ _ HV.out.1).mono ?_
    rintro e w3 ⟨eb3, rfl, he3, hn3⟩
    have HE3 := Lib.hid he3
    have HN3 := Lib.hid (HN2.out.trans hn3)
    have HMR3 := Lib.hid (HMR.out.keep hn3 id id id)
    clear he3 hn3
    go_wp2
    go_ret2
    exact ⟨_, _, rfl, HFIN.out _ _ _ rfl (by rw [HPC.out]; exact ⟨HE3.out, HV.out.2⟩) (H.out.new HN3.out) HMR3.out (HN3.out.mono (fun _ _ h => h.elim))⟩
set_option maxRecDepth 100000 in
set_option maxHeartbeats 8000000 in
theorem step_acc19 (a : Nat) (B C : Int) (V : Nat) (M W : Int) (h : FmAt w fb o v F) (hi : InsAt w cg co k 19 a B C V M W) (hk : k < n) (hn : n ≤ 1000000) (hV : V < 18446744073709551616) (hpc : F.pc = k) (hg : goodV 19 a B C V n = true) (ha : a < 32) (hC : (19 : Int) = 21 → 0 ≤ C ∧ C < 32)
    (hm : MemRep w mb cb wb cs ws th ct) (hct : ct + 1 < 1000000000) (hap : fb ≠ mb ∧ fb ≠ cb ∧ fb ≠ wb) (hvp : v.ownBlock ≠ some mb ∧ v.ownBlock ≠ some cb) :
    Calls Tryd.prog 10 #[.pointer (some ⟨fb, o, none⟩), .slice (some ⟨cg, co, none⟩) n cap, memV mb] w fun e w' => ∃ r er, e = .returned (.tuple #[r, er]) ∧ AccRes w fb o mb cb wb v F cs ws th ct 19 a B C V r er w' := by
  have c0 := h.fr.pc
  have hl := h.fr.lt
  rw [hpc] at c0
  have HM := Lib.hid (fun w' => vmay_any 19 a B C V M W n w' hV (by omega) (by omega))
  unfold goodV at hg
  rw [hg] at HM
  have HI := Lib.hid hi
  have HAC := Lib.hid (fun w' (f : New w w') => access_each fb o mb cb wb v F cs ws th ct w' 19 a B C V M W (h.new f) (hm.keep f id id id) hct a rfl ha hV (by omega) hC)
  have HFIN := Lib.hid (fun (r er : Value) (w' : World) h1 h2 h3 h4 h5 => AccRes.mk (w := w) (fb := fb) (o := o) (mb := mb) (cb := cb) (wb := wb) (v := v) (F := F) (cs := cs) (ws := ws) (th := th) (ct := ct) (op := 19) (a := a) (B := B) (C := C) (V := V) (r := r) (er := er) (w' := w') h1 h2 h3 h4 h5)
  obtain ⟨hm1, hm2, hm3⟩ := show mb < w.heap.size ∧ cb < w.heap.size ∧ wb < w.heap.size from ⟨hm.hd.lt, hm.cells.lt, hm.widths.lt⟩
  have hX : accY 19 a F.rs cs ws (adrN F.rs B V) < 18446744073709551616 := by
    unfold accY
    split
    · exact getD_fit h.fr.fits _
    · exact accVal_fit hm _
  generalize accY 19 a F.rs cs ws (adrN F.rs B V) = X at HAC HFIN hX
  generalize accCs (accK 19) cs ws (adrN F.rs B V) (F.rs.getD a 0) (accV 19 C a F.rs) = cs' at HAC HFIN
  generalize accN ws (adrN F.rs B V) ct = ct' at HAC HFIN
  generalize accErr ws (adrN F.rs B V) = oe at HAC HFIN
  obtain ⟨_, x0, x1, x2, x3, x4, x5, x6⟩ := hi
  have q1 : (0 : Int) ≤ (k : Int) := by omega
  have q2 : (k : Int) < (n : Int) := by omega
  have q3 : (0 : Int) ≤ (a : Int) := by omega
  have q4 : (a : Int) < 32 := by omega
  have t1 : IntKind.i64.wrap ((k : Int) + 1) = (k : Int) + 1 := IntWalk.i64_in _ (by omega)
  have H := Lib.hid h
  have HPC := Lib.hid hpc
  have HVP := Lib.hid hvp
  clear h hg hpc hm hct hvp hC
  cases oe with
  | none =>
    go_enter Tryd.func10, Tryd.ntmps10
    go_wp2_with fail
    refine (HM.out _).mono ?_
    rintro e w1 ⟨rfl, hn1⟩
    obtain ⟨_, y0, y1, y2, y3, y4, y5, y6⟩ := HI.out.keep hn1 id
    have d0 := (hn1.cell hl id _).trans c0
    have HN1 := Lib.hid hn1
    clear c0 x0 x1 x2 x3 x4 x5 x6 hn1
    go_wp2_with fail
    obtain ⟨W0, hW0⟩ : ∃ W0, w1.alloc (.cells #[.int .i64 19, .int .i64 a, .int .i64 B, .int .i64 C, .int .u64 V, .int .i64 M, .int .i64 W] 52) = W0 := ⟨_, rfl⟩
    have hn0 : New w W0 := by rw [← hW0]; exact HN1.out.alloc _
    have hb0 : W0.heap[w1.heap.size]? = some (.cells #[.int .i64 19, .int .i64 a, .int .i64 B, .int .i64 C, .int .u64 V, .int .i64 M, .int .i64 W] 52 (0, 0)) := by rw [← hW0]; exact block_alloc_new _ _
    have hwx : w.heap.size ≤ w1.heap.size := HN1.out.size
    obtain ⟨xb, hxb⟩ : ∃ xb, w1.heap.size = xb := ⟨_, rfl⟩
    rw [hxb] at hb0 hwx ⊢
    have hxl := lt_of_block hb0
    rw [hW0]
    have HN0 := Lib.hid hn0
    have HB0 := Lib.hid hb0
    clear hW0 hn0 hb0 d0 y0 y1 y2 y3 y4 y5 y6 hxb
    refine (HAC.out W0 HN0.out).mono ?_
    rintro e w2 ⟨er, rfl, hsy, hmr, hf⟩
    obtain rfl : er = .nilIface := hsy
    have hfm := (H.out.new HN0.out).keep hf (fun e => by obtain ⟨_, e⟩ := e; omega) (fun i hi e => by
      obtain ⟨_, rfl | rfl⟩ := e
      · exact HVP.out.1 hi
      · exact HVP.out.2 hi)
    have hb2 := (hf.block xb hxl (fun e => by obtain ⟨_, e⟩ := e; omega)).trans HB0.out
    have HFM := Lib.hid hfm
    have HB2 := Lib.hid hb2
    have HMR := Lib.hid hmr
    have HF := Lib.hid ((HN0.out.mono (T := fun k => k = fb ∨ k = mb ∨ k = cb) (fun _ _ h => h.elim)).trans (hf.mono (fun _ _ h => .inr h.2)))
    clear hfm hb2 hmr hf
    have b1 : w2.cell? ⟨xb, 1, none⟩ = some (.int .i64 a) := cell_of_block HB2.out 1
    go_wp2_with fail
    have s0 : w2.drew.cell? ⟨xb, 1, none⟩ = some (.int .i64 a) := b1
    refine heldStart (fun wz => wz.cell? ⟨xb, 1, none⟩ = some (.int .i64 a)) (by kernel_rfl) ?_
    have n2 : New w2 w2.drew := (Fr.refl _ _).drew
    have HFM2 := Lib.hid (HFM.out.new n2)
    have HFR2 := Lib.hid (Fr34.new (o := o) HFM.out.fr.lt n2)
    have hxf : xb ≠ fb := by omega
    clear b1
    generalize w2.drew = w3 at s0 HFM2 HFR2 n2 ⊢
    refine wpAnyH_take (i := 0) (v := ?_) rfl (by kernel_rfl) (by kernel_rfl) (by kernel_rfl) (fun _ _ _ h => h) (Or.inl ⟨by rfl, ?_⟩) s0 ?_
    rotate_left
    · intro w hSw; first | (obtain ⟨s1, s2, s3, s4, s5, s6, s7, s8⟩ := hSw; go_simp; rfl) | (obtain ⟨s1, s2, s3, s4, s5, s6, s7⟩ := hSw; go_simp; rfl) | (obtain ⟨s1, s2, s3⟩ := hSw; go_simp; rfl) | (obtain ⟨s1, s2⟩ := hSw; go_simp; rfl) | (have s1 := hSw; go_simp; rfl)
    go_simp
    refine wpAnyH_take (i := 1) (v := ?_) rfl (by kernel_rfl) (by kernel_rfl) (by kernel_rfl) (fun _ _ _ h => h) (Or.inl ⟨by rfl, ?_⟩) s0 ?_
    rotate_left
    · intro w hSw; first | (obtain ⟨s1, s2, s3, s4, s5, s6, s7, s8⟩ := hSw; go_simp; rfl) | (obtain ⟨s1, s2, s3, s4, s5, s6, s7⟩ := hSw; go_simp; rfl) | (obtain ⟨s1, s2, s3⟩ := hSw; go_simp; rfl) | (obtain ⟨s1, s2⟩ := hSw; go_simp; rfl) | (have s1 := hSw; go_simp; rfl)
    go_simp
    refine wpAnyH_take (i := 2) (v := ?_) rfl (by kernel_rfl) (by kernel_rfl) (by kernel_rfl) (fun _ _ _ h => h) (Or.inl ⟨by rfl, ?_⟩) s0 ?_
    rotate_left
    · intro w hSw; first | (obtain ⟨s1, s2, s3, s4, s5, s6, s7, s8⟩ := hSw; go_simp; rfl) | (obtain ⟨s1, s2, s3, s4, s5, s6, s7⟩ := hSw; go_simp; rfl) | (obtain ⟨s1, s2, s3⟩ := hSw; go_simp; rfl) | (obtain ⟨s1, s2⟩ := hSw; go_simp; rfl) | (have s1 := hSw; go_simp; rfl)
    go_simp
    refine wpAnyH_take (i := 3) (v := ?_) rfl (by kernel_rfl) (by kernel_rfl) (by kernel_rfl) (fun _ _ _ h => h) (Or.inl ⟨by rfl, ?_⟩) s0 ?_
    rotate_left
    · intro w hSw; first | (obtain ⟨s1, s2, s3, s4, s5, s6, s7, s8⟩ := hSw; go_simp; rfl) | (obtain ⟨s1, s2, s3, s4, s5, s6, s7⟩ := hSw; go_simp; rfl) | (obtain ⟨s1, s2, s3⟩ := hSw; go_simp; rfl) | (obtain ⟨s1, s2⟩ := hSw; go_simp; rfl) | (have s1 := hSw; go_simp; rfl)
    go_simp
    refine wpAnyH_take (i := 4) (v := ?_) rfl (by kernel_rfl) (by kernel_rfl) (by kernel_rfl) (fun _ _ _ h => h) (Or.inl ⟨by rfl, ?_⟩) s0 ?_
    rotate_left
    · intro w hSw; first | (obtain ⟨s1, s2, s3, s4, s5, s6, s7, s8⟩ := hSw; go_simp; rfl) | (obtain ⟨s1, s2, s3, s4, s5, s6, s7⟩ := hSw; go_simp; rfl) | (obtain ⟨s1, s2, s3⟩ := hSw; go_simp; rfl) | (obtain ⟨s1, s2⟩ := hSw; go_simp; rfl) | (have s1 := hSw; go_simp; rfl)
    go_simp
    refine wpAnyH_take (i := 5) (v := ?_) rfl (by kernel_rfl) (by kernel_rfl) (by kernel_rfl) (fun _ _ _ h => h) (Or.inl ⟨by rfl, ?_⟩) s0 ?_
    rotate_left
    · intro w hSw; first | (obtain ⟨s1, s2, s3, s4, s5, s6, s7, s8⟩ := hSw; go_simp; rfl) | (obtain ⟨s1, s2, s3, s4, s5, s6, s7⟩ := hSw; go_simp; rfl) | (obtain ⟨s1, s2, s3⟩ := hSw; go_simp; rfl) | (obtain ⟨s1, s2⟩ := hSw; go_simp; rfl) | (have s1 := hSw; go_simp; rfl)
    go_simp
    refine wpAnyH_take (i := 6) (v := ?_) rfl (by kernel_rfl) (by kernel_rfl) (by kernel_rfl) (fun _ _ _ h => h) (Or.inl ⟨by rfl, ?_⟩) s0 ?_
    rotate_left
    · intro w hSw; first | (obtain ⟨s1, s2, s3, s4, s5, s6, s7, s8⟩ := hSw; go_simp; rfl) | (obtain ⟨s1, s2, s3, s4, s5, s6, s7⟩ := hSw; go_simp; rfl) | (obtain ⟨s1, s2, s3⟩ := hSw; go_simp; rfl) | (obtain ⟨s1, s2⟩ := hSw; go_simp; rfl) | (have s1 := hSw; go_simp; rfl)
    go_simp
    refine heldOne (i := 7) (by kernel_rfl) rfl (by rfl) (fun K hK => ?_)
    have ya := HFM2.out.fr.regD ha
    have yz := HFM2.out.fr.free
    go_simp
    have HS5 := Lib.hid (HFM2.out.setReg ha hX)
    have HF5 := Lib.hid (HFR2.out.trans (Fr34.set (fb := fb) (o := o) (i := o + 1 + a) (.int .u64 (X : Nat)) (by omega) (by omega)))
    have s5 : (w3.setCell ⟨fb, o + 1 + a, none⟩ (.int .u64 (X : Nat))).cell? ⟨xb, 1, none⟩ = some (.int .i64 a) := by rw [cell_set_ne _ (.inl (Ne.symm hxf))]; exact s0
    refine hK.out _ _ s5 ?_
    clear hK ya yz
    refine wpAnyH_done (by kernel_rfl) ?_ _
    clear s0 n2
    generalize w3.setCell ⟨fb, o + 1 + a, none⟩ (.int .u64 (X : Nat)) = w5 at HS5 HF5 s5 ⊢
    have d0 : w5.cell? ⟨fb, o, none⟩ = some (.int .i64 k) := by rw [← HPC.out]; exact HS5.out.fr.pc
    have zf : ∀ i, w5.frozen? ⟨fb, i, none⟩ = false := HS5.out.fr.free
    clear s5
    go_wp2
    go_ret2
    have f5 := HF5.out.trans (Fr34.set (.int .i64 ((k : Int) + 1)) (Nat.le_refl _) (by omega))
    exact ⟨_, _, rfl, HFIN.out _ _ _ rfl rfl (by rw [HPC.out]; exact HS5.out.setPc _) (HMR.out.keep f5.fr (Ne.symm hap.1) (Ne.symm hap.2.1) (Ne.symm hap.2.2)) (HF.out.trans (f5.fr.mono (fun _ _ h => .inl h)))⟩
  | some x =>
    obtain ⟨q, kk⟩ := x
    go_enter Tryd.func10, Tryd.ntmps10
    go_wp2_with fail
    refine (HM.out _).mono ?_
    rintro e w1 ⟨rfl, hn1⟩
    obtain ⟨_, y0, y1, y2, y3, y4, y5, y6⟩ := HI.out.keep hn1 id
    have d0 := (hn1.cell hl id _).trans c0
    have HN1 := Lib.hid hn1
    clear c0 x0 x1 x2 x3 x4 x5 x6 hn1
    go_wp2_with fail
    obtain ⟨W0, hW0⟩ : ∃ W0, w1.alloc (.cells #[.int .i64 19, .int .i64 a, .int .i64 B, .int .i64 C, .int .u64 V, .int .i64 M, .int .i64 W] 52) = W0 := ⟨_, rfl⟩
    have hn0 : New w W0 := by rw [← hW0]; exact HN1.out.alloc _
    rw [hW0]
    have HN0 := Lib.hid hn0
    clear hW0 hn0 d0 y0 y1 y2 y3 y4 y5 y6
    refine (HAC.out W0 HN0.out).mono ?_
    rintro e w2 ⟨er, rfl, hsy, hmr, hf⟩
    obtain ⟨eb, rfl⟩ := hsy.at
    have hn2 : New w w2 := HN0.out.trans (hf.mono (fun _ _ h => by cases h.1))
    have d0 := (hn2.cell hl id o).trans H.out.fr.pc
    rw [HPC.out] at d0
    have HV := Lib.hid hsy
    have HN2 := Lib.hid hn2
    have HMR := Lib.hid hmr
    clear hsy hmr hf hn2
    go_wp2_with fail
    refine (vfail_in k kk _ _ _ HV.out.1).mono ?_
    rintro e w3 ⟨eb3, rfl, he3, hn3⟩
    have HE3 := Lib.hid he3
    have HN3 := Lib.hid (HN2.out.trans hn3)
    have HMR3 := Lib.hid (HMR.out.keep hn3 id id id)
    clear he3 hn3
    go_wp2
    go_ret2
    exact ⟨_, _, rfl, HFIN.out _ _ _ rfl (by rw [HPC.out]; exact ⟨HE3.out, HV.out.2⟩) (H.out.new HN3.out) HMR3.out (HN3.out.mono (fun _ _ h => h.elim))⟩
set_option maxRecDepth 100000 in
set_option maxHeartbeats 8000000 in
theorem step_acc20 (a : Nat) (B C : Int) (V : Nat) (M W : Int) (h : FmAt w fb o v F) (hi : InsAt w cg co k 20 a B C V M W) (hk : k < n) (hn : n ≤ 1000000) (hV : V < 18446744073709551616) (hpc : F.pc = k) (hg : goodV 20 a B C V n = true) (ha : a < 32) (hC : (20 : Int) = 21 → 0 ≤ C ∧ C < 32)
    (hm : MemRep w mb cb wb cs ws th ct) (hct : ct + 1 < 1000000000) (hap : fb ≠ mb ∧ fb ≠ cb ∧ fb ≠ wb) (hvp : v.ownBlock ≠ some mb ∧ v.ownBlock ≠ some cb) :
    Calls Tryd.prog 10 #[.pointer (some ⟨fb, o, none⟩), .slice (some ⟨cg, co, none⟩) n cap, memV mb] w fun e w' => ∃ r er, e = .returned (.tuple #[r, er]) ∧ AccRes w fb o mb cb wb v F cs ws th ct 20 a B C V r er w' := by
  have c0 := h.fr.pc
  have hl := h.fr.lt
  rw [hpc] at c0
  have HM := Lib.hid (fun w' => vmay_any 20 a B C V M W n w' hV (by omega) (by omega))
  unfold goodV at hg
  rw [hg] at HM
  have HI := Lib.hid hi
  have HAC := Lib.hid (fun w' (f : New w w') => access_each fb o mb cb wb v F cs ws th ct w' 20 a B C V M W (h.new f) (hm.keep f id id id) hct a rfl ha hV (by omega) hC)
  have HFIN := Lib.hid (fun (r er : Value) (w' : World) h1 h2 h3 h4 h5 => AccRes.mk (w := w) (fb := fb) (o := o) (mb := mb) (cb := cb) (wb := wb) (v := v) (F := F) (cs := cs) (ws := ws) (th := th) (ct := ct) (op := 20) (a := a) (B := B) (C := C) (V := V) (r := r) (er := er) (w' := w') h1 h2 h3 h4 h5)
  obtain ⟨hm1, hm2, hm3⟩ := show mb < w.heap.size ∧ cb < w.heap.size ∧ wb < w.heap.size from ⟨hm.hd.lt, hm.cells.lt, hm.widths.lt⟩
  have hX : accY 20 a F.rs cs ws (adrN F.rs B V) < 18446744073709551616 := by
    unfold accY
    split
    · exact getD_fit h.fr.fits _
    · exact accVal_fit hm _
  generalize accY 20 a F.rs cs ws (adrN F.rs B V) = X at HAC HFIN hX
  generalize accCs (accK 20) cs ws (adrN F.rs B V) (F.rs.getD a 0) (accV 20 C a F.rs) = cs' at HAC HFIN
  generalize accN ws (adrN F.rs B V) ct = ct' at HAC HFIN
  generalize accErr ws (adrN F.rs B V) = oe at HAC HFIN
  obtain ⟨_, x0, x1, x2, x3, x4, x5, x6⟩ := hi
  have q1 : (0 : Int) ≤ (k : Int) := by omega
  have q2 : (k : Int) < (n : Int) := by omega
  have q3 : (0 : Int) ≤ (a : Int) := by omega
  have q4 : (a : Int) < 32 := by omega
  have t1 : IntKind.i64.wrap ((k : Int) + 1) = (k : Int) + 1 := IntWalk.i64_in _ (by omega)
  have H := Lib.hid h
  have HPC := Lib.hid hpc
  have HVP := Lib.hid hvp
  clear h hg hpc hm hct hvp hC
  cases oe with
  | none =>
    go_enter Tryd.func10, Tryd.ntmps10
    go_wp2_with fail
    refine (HM.out _).mono ?_
    rintro e w1 ⟨rfl, hn1⟩
    obtain ⟨_, y0, y1, y2, y3, y4, y5, y6⟩ := HI.out.keep hn1 id
    have d0 := (hn1.cell hl id _).trans c0
    have HN1 := Lib.hid hn1
    clear c0 x0 x1 x2 x3 x4 x5 x6 hn1
    go_wp2_with fail
    obtain ⟨W0, hW0⟩ : ∃ W0, w1.alloc (.cells #[.int .i64 20, .int .i64 a, .int .i64 B, .int .i64 C, .int .u64 V, .int .i64 M, .int .i64 W] 52) = W0 := ⟨_, rfl⟩
    have hn0 : New w W0 := by rw [← hW0]; exact HN1.out.alloc _
    have hb0 : W0.heap[w1.heap.size]? = some (.cells #[.int .i64 20, .int .i64 a, .int .i64 B, .int .i64 C, .int .u64 V, .int .i64 M, .int .i64 W] 52 (0, 0)) := by rw [← hW0]; exact block_alloc_new _ _
    have hwx : w.heap.size ≤ w1.heap.size := HN1.out.size
    obtain ⟨xb, hxb⟩ : ∃ xb, w1.heap.size = xb := ⟨_, rfl⟩
    rw [hxb] at hb0 hwx ⊢
    have hxl := lt_of_block hb0
    rw [hW0]
    have HN0 := Lib.hid hn0
    have HB0 := Lib.hid hb0
    clear hW0 hn0 hb0 d0 y0 y1 y2 y3 y4 y5 y6 hxb
    refine (HAC.out W0 HN0.out).mono ?_
    rintro e w2 ⟨er, rfl, hsy, hmr, hf⟩
    obtain rfl : er = .nilIface := hsy
    have hfm := (H.out.new HN0.out).keep hf (fun e => by obtain ⟨_, e⟩ := e; omega) (fun i hi e => by
      obtain ⟨_, rfl | rfl⟩ := e
      · exact HVP.out.1 hi
      · exact HVP.out.2 hi)
    have hb2 := (hf.block xb hxl (fun e => by obtain ⟨_, e⟩ := e; omega)).trans HB0.out
    have HFM := Lib.hid hfm
    have HB2 := Lib.hid hb2
    have HMR := Lib.hid hmr
    have HF := Lib.hid ((HN0.out.mono (T := fun k => k = fb ∨ k = mb ∨ k = cb) (fun _ _ h => h.elim)).trans (hf.mono (fun _ _ h => .inr h.2)))
    clear hfm hb2 hmr hf
    have b1 : w2.cell? ⟨xb, 1, none⟩ = some (.int .i64 a) := cell_of_block HB2.out 1
    go_wp2_with fail
    have s0 : w2.drew.cell? ⟨xb, 1, none⟩ = some (.int .i64 a) := b1
    refine heldStart (fun wz => wz.cell? ⟨xb, 1, none⟩ = some (.int .i64 a)) (by kernel_rfl) ?_
    have n2 : New w2 w2.drew := (Fr.refl _ _).drew
    have HFM2 := Lib.hid (HFM.out.new n2)
    have HFR2 := Lib.hid (Fr34.new (o := o) HFM.out.fr.lt n2)
    have hxf : xb ≠ fb := by omega
    clear b1
    generalize w2.drew = w3 at s0 HFM2 HFR2 n2 ⊢
    refine wpAnyH_take (i := 0) (v := ?_) rfl (by kernel_rfl) (by kernel_rfl) (by kernel_rfl) (fun _ _ _ h => h) (Or.inl ⟨by rfl, ?_⟩) s0 ?_
    rotate_left
    · intro w hSw; first | (obtain ⟨s1, s2, s3, s4, s5, s6, s7, s8⟩ := hSw; go_simp; rfl) | (obtain ⟨s1, s2, s3, s4, s5, s6, s7⟩ := hSw; go_simp; rfl) | (obtain ⟨s1, s2, s3⟩ := hSw; go_simp; rfl) | (obtain ⟨s1, s2⟩ := hSw; go_simp; rfl) | (have s1 := hSw; go_simp; rfl)
    go_simp
    refine wpAnyH_take (i := 1) (v := ?_) rfl (by kernel_rfl) (by kernel_rfl) (by kernel_rfl) (fun _ _ _ h => h) (Or.inl ⟨by rfl, ?_⟩) s0 ?_
    rotate_left
    · intro w hSw; first | (obtain ⟨s1, s2, s3, s4, s5, s6, s7, s8⟩ := hSw; go_simp; rfl) | (obtain ⟨s1, s2, s3, s4, s5, s6, s7⟩ := hSw; go_simp; rfl) | (obtain ⟨s1, s2, s3⟩ := hSw; go_simp; rfl) | (obtain ⟨s1, s2⟩ := hSw; go_simp; rfl) | (have s1 := hSw; go_simp; rfl)
    go_simp
    refine wpAnyH_take (i := 2) (v := ?_) rfl (by kernel_rfl) (by kernel_rfl) (by kernel_rfl) (fun _ _ _ h => h) (Or.inl ⟨by rfl, ?_⟩) s0 ?_
    rotate_left
    · intro w hSw; first | (obtain ⟨s1, s2, s3, s4, s5, s6, s7, s8⟩ := hSw; go_simp; rfl) | (obtain ⟨s1, s2, s3, s4, s5, s6, s7⟩ := hSw; go_simp; rfl) | (obtain ⟨s1, s2, s3⟩ := hSw; go_simp; rfl) | (obtain ⟨s1, s2⟩ := hSw; go_simp; rfl) | (have s1 := hSw; go_simp; rfl)
    go_simp
    refine wpAnyH_take (i := 3) (v := ?_) rfl (by kernel_rfl) (by kernel_rfl) (by kernel_rfl) (fun _ _ _ h => h) (Or.inl ⟨by rfl, ?_⟩) s0 ?_
    rotate_left
    · intro w hSw; first | (obtain ⟨s1, s2, s3, s4, s5, s6, s7, s8⟩ := hSw; go_simp; rfl) | (obtain ⟨s1, s2, s3, s4, s5, s6, s7⟩ := hSw; go_simp; rfl) | (obtain ⟨s1, s2, s3⟩ := hSw; go_simp; rfl) | (obtain ⟨s1, s2⟩ := hSw; go_simp; rfl) | (have s1 := hSw; go_simp; rfl)
    go_simp
    refine wpAnyH_take (i := 4) (v := ?_) rfl (by kernel_rfl) (by kernel_rfl) (by kernel_rfl) (fun _ _ _ h => h) (Or.inl ⟨by rfl, ?_⟩) s0 ?_
    rotate_left
    · intro w hSw; first | (obtain ⟨s1, s2, s3, s4, s5, s6, s7, s8⟩ := hSw; go_simp; rfl) | (obtain ⟨s1, s2, s3, s4, s5, s6, s7⟩ := hSw; go_simp; rfl) | (obtain ⟨s1, s2, s3⟩ := hSw; go_simp; rfl) | (obtain ⟨s1, s2⟩ := hSw; go_simp; rfl) | (have s1 := hSw; go_simp; rfl)
    go_simp
    refine wpAnyH_take (i := 5) (v := ?_) rfl (by kernel_rfl) (by kernel_rfl) (by kernel_rfl) (fun _ _ _ h => h) (Or.inl ⟨by rfl, ?_⟩) s0 ?_
    rotate_left
    · intro w hSw; first | (obtain ⟨s1, s2, s3, s4, s5, s6, s7, s8⟩ := hSw; go_simp; rfl) | (obtain ⟨s1, s2, s3, s4, s5, s6, s7⟩ := hSw; go_simp; rfl) | (obtain ⟨s1, s2, s3⟩ := hSw; go_simp; rfl) | (obtain ⟨s1, s2⟩ := hSw; go_simp; rfl) | (have s1 := hSw; go_simp; rfl)
    go_simp
    refine wpAnyH_take (i := 6) (v := ?_) rfl (by kernel_rfl) (by kernel_rfl) (by kernel_rfl) (fun _ _ _ h => h) (Or.inl ⟨by rfl, ?_⟩) s0 ?_
    rotate_left
    · intro w hSw; first | (obtain ⟨s1, s2, s3, s4, s5, s6, s7, s8⟩ := hSw; go_simp; rfl) | (obtain ⟨s1, s2, s3, s4, s5, s6, s7⟩ := hSw; go_simp; rfl) | (obtain ⟨s1, s2, s3⟩ := hSw; go_simp; rfl) | (obtain ⟨s1, s2⟩ := hSw; go_simp; rfl) | (have s1 := hSw; go_simp; rfl)
    go_simp
    refine heldOne (i := 7) (by kernel_rfl) rfl (by rfl) (fun K hK => ?_)
    have ya := HFM2.out.fr.regD ha
    have yz := HFM2.out.fr.free
    go_simp
    have HS5 := Lib.hid (HFM2.out.setReg ha hX)
    have HF5 := Lib.hid (HFR2.out.trans (Fr34.set (fb := fb) (o := o) (i := o + 1 + a) (.int .u64 (X : Nat)) (by omega) (by omega)))
    have s5 : (w3.setCell ⟨fb, o + 1 + a, none⟩ (.int .u64 (X : Nat))).cell? ⟨xb, 1, none⟩ = some (.int .i64 a) := by rw [cell_set_ne _ (.inl (Ne.symm hxf))]; exact s0
    refine hK.out _ _ s5 ?_
    clear hK ya yz
    refine wpAnyH_done (by kernel_rfl) ?_ _
    clear s0 n2
    generalize w3.setCell ⟨fb, o + 1 + a, none⟩ (.int .u64 (X : Nat)) = w5 at HS5 HF5 s5 ⊢
    have d0 : w5.cell? ⟨fb, o, none⟩ = some (.int .i64 k) := by rw [← HPC.out]; exact HS5.out.fr.pc
    have zf : ∀ i, w5.frozen? ⟨fb, i, none⟩ = false := HS5.out.fr.free
    clear s5
    go_wp2
    go_ret2
    have f5 := HF5.out.trans (Fr34.set (.int .i64 ((k : Int) + 1)) (Nat.le_refl _) (by omega))
    exact ⟨_, _, rfl, HFIN.out _ _ _ rfl rfl (by rw [HPC.out]; exact HS5.out.setPc _) (HMR.out.keep f5.fr (Ne.symm hap.1) (Ne.symm hap.2.1) (Ne.symm hap.2.2)) (HF.out.trans (f5.fr.mono (fun _ _ h => .inl h)))⟩
  | some x =>
    obtain ⟨q, kk⟩ := x
    go_enter Tryd.func10, Tryd.ntmps10
    go_wp2_with fail
    refine (HM.out _).mono ?_
    rintro e w1 ⟨rfl, hn1⟩
    obtain ⟨_, y0, y1, y2, y3, y4, y5, y6⟩ := HI.out.keep hn1 id
    have d0 := (hn1.cell hl id _).trans c0
    have HN1 := Lib.hid hn1
    clear c0 x0 x1 x2 x3 x4 x5 x6 hn1
    go_wp2_with fail
    obtain ⟨W0, hW0⟩ : ∃ W0, w1.alloc (.cells #[.int .i64 20, .int .i64 a, .int .i64 B, .int .i64 C, .int .u64 V, .int .i64 M, .int .i64 W] 52) = W0 := ⟨_, rfl⟩
    have hn0 : New w W0 := by rw [← hW0]; exact HN1.out.alloc _
    rw [hW0]
    have HN0 := Lib.hid hn0
    clear hW0 hn0 d0 y0 y1 y2 y3 y4 y5 y6
    refine (HAC.out W0 HN0.out).mono ?_
    rintro e w2 ⟨er, rfl, hsy, hmr, hf⟩
    obtain ⟨eb, rfl⟩ := hsy.at
    have hn2 : New w w2 := HN0.out.trans (hf.mono (fun _ _ h => by cases h.1))
    have d0 := (hn2.cell hl id o).trans H.out.fr.pc
    rw [HPC.out] at d0
    have HV := Lib.hid hsy
    have HN2 := Lib.hid hn2
    have HMR := Lib.hid hmr
    clear hsy hmr hf hn2
    go_wp2_with fail
    refine (vfail_in k kk _ _ _ HV.out.1).mono ?_
    rintro e w3 ⟨eb3, rfl, he3, hn3⟩
    have HE3 := Lib.hid he3
    have HN3 := Lib.hid (HN2.out.trans hn3)
    have HMR3 := Lib.hid (HMR.out.keep hn3 id id id)
    clear he3 hn3
    go_wp2
    go_ret2
    exact ⟨_, _, rfl, HFIN.out _ _ _ rfl (by rw [HPC.out]; exact ⟨HE3.out, HV.out.2⟩) (H.out.new HN3.out) HMR3.out (HN3.out.mono (fun _ _ h => h.elim))⟩
set_option maxRecDepth 100000 in
set_option maxHeartbeats 8000000 in
theorem step_acc21 (a : Nat) (B C : Int) (V : Nat) (M W : Int) (h : FmAt w fb o v F) (hi : InsAt w cg co k 21 a B C V M W) (hk : k < n) (hn : n ≤ 1000000) (hV : V < 18446744073709551616) (hpc : F.pc = k) (hg : goodV 21 a B C V n = true) (ha : a < 32) (hC : (21 : Int) = 21 → 0 ≤ C ∧ C < 32)
    (hm : MemRep w mb cb wb cs ws th ct) (hct : ct + 1 < 1000000000) (hap : fb ≠ mb ∧ fb ≠ cb ∧ fb ≠ wb) (hvp : v.ownBlock ≠ some mb ∧ v.ownBlock ≠ some cb) :
    Calls Tryd.prog 10 #[.pointer (some ⟨fb, o, none⟩), .slice (some ⟨cg, co, none⟩) n cap, memV mb] w fun e w' => ∃ r er, e = .returned (.tuple #[r, er]) ∧ AccRes w fb o mb cb wb v F cs ws th ct 21 a B C V r er w' := by
  have c0 := h.fr.pc
  have hl := h.fr.lt
  rw [hpc] at c0
  have HM := Lib.hid (fun w' => vmay_any 21 a B C V M W n w' hV (by omega) (by omega))
  unfold goodV at hg
  rw [hg] at HM
  have HI := Lib.hid hi
  have HAC := Lib.hid (fun w' (f : New w w') => access_each fb o mb cb wb v F cs ws th ct w' 21 a B C V M W (h.new f) (hm.keep f id id id) hct a rfl ha hV (by omega) hC)
  have HFIN := Lib.hid (fun (r er : Value) (w' : World) h1 h2 h3 h4 h5 => AccRes.mk (w := w) (fb := fb) (o := o) (mb := mb) (cb := cb) (wb := wb) (v := v) (F := F) (cs := cs) (ws := ws) (th := th) (ct := ct) (op := 21) (a := a) (B := B) (C := C) (V := V) (r := r) (er := er) (w' := w') h1 h2 h3 h4 h5)
  obtain ⟨hm1, hm2, hm3⟩ := show mb < w.heap.size ∧ cb < w.heap.size ∧ wb < w.heap.size from ⟨hm.hd.lt, hm.cells.lt, hm.widths.lt⟩
  have hX : accY 21 a F.rs cs ws (adrN F.rs B V) < 18446744073709551616 := by
    unfold accY
    split
    · exact getD_fit h.fr.fits _
    · exact accVal_fit hm _
  generalize accY 21 a F.rs cs ws (adrN F.rs B V) = X at HAC HFIN hX
  generalize accCs (accK 21) cs ws (adrN F.rs B V) (F.rs.getD a 0) (accV 21 C a F.rs) = cs' at HAC HFIN
  generalize accN ws (adrN F.rs B V) ct = ct' at HAC HFIN
  generalize accErr ws (adrN F.rs B V) = oe at HAC HFIN
  obtain ⟨_, x0, x1, x2, x3, x4, x5, x6⟩ := hi
  have q1 : (0 : Int) ≤ (k : Int) := by omega
  have q2 : (k : Int) < (n : Int) := by omega
  have q3 : (0 : Int) ≤ (a : Int) := by omega
  have q4 : (a : Int) < 32 := by omega
  have t1 : IntKind.i64.wrap ((k : Int) + 1) = (k : Int) + 1 := IntWalk.i64_in _ (by omega)
  have H := Lib.hid h
  have HPC := Lib.hid hpc
  have HVP := Lib.hid hvp
  clear h hg hpc hm hct hvp hC
  cases oe with
  | none =>
    go_enter Tryd.func10, Tryd.ntmps10
    go_wp2_with fail
    refine (HM.out _).mono ?_
    rintro e w1 ⟨rfl, hn1⟩
    obtain ⟨_, y0, y1, y2, y3, y4, y5, y6⟩ := HI.out.keep hn1 id
    have d0 := (hn1.cell hl id _).trans c0
    have HN1 := Lib.hid hn1
    clear c0 x0 x1 x2 x3 x4 x5 x6 hn1
    go_wp2_with fail
    obtain ⟨W0, hW0⟩ : ∃ W0, w1.alloc (.cells #[.int .i64 21, .int .i64 a, .int .i64 B, .int .i64 C, .int .u64 V, .int .i64 M, .int .i64 W] 52) = W0 := ⟨_, rfl⟩
    have hn0 : New w W0 := by rw [← hW0]; exact HN1.out.alloc _
    have hb0 : W0.heap[w1.heap.size]? = some (.cells #[.int .i64 21, .int .i64 a, .int .i64 B, .int .i64 C, .int .u64 V, .int .i64 M, .int .i64 W] 52 (0, 0)) := by rw [← hW0]; exact block_alloc_new _ _
    have hwx : w.heap.size ≤ w1.heap.size := HN1.out.size
    obtain ⟨xb, hxb⟩ : ∃ xb, w1.heap.size = xb := ⟨_, rfl⟩
    rw [hxb] at hb0 hwx ⊢
    have hxl := lt_of_block hb0
    rw [hW0]
    have HN0 := Lib.hid hn0
    have HB0 := Lib.hid hb0
    clear hW0 hn0 hb0 d0 y0 y1 y2 y3 y4 y5 y6 hxb
    refine (HAC.out W0 HN0.out).mono ?_
    rintro e w2 ⟨er, rfl, hsy, hmr, hf⟩
    obtain rfl : er = .nilIface := hsy
    have hfm := (H.out.new HN0.out).keep hf (fun e => by obtain ⟨_, e⟩ := e; omega) (fun i hi e => by
      obtain ⟨_, rfl | rfl⟩ := e
      · exact HVP.out.1 hi
      · exact HVP.out.2 hi)
    have hb2 := (hf.block xb hxl (fun e => by obtain ⟨_, e⟩ := e; omega)).trans HB0.out
    have HFM := Lib.hid hfm
    have HB2 := Lib.hid hb2
    have HMR := Lib.hid hmr
    have HF := Lib.hid ((HN0.out.mono (T := fun k => k = fb ∨ k = mb ∨ k = cb) (fun _ _ h => h.elim)).trans (hf.mono (fun _ _ h => .inr h.2)))
    clear hfm hb2 hmr hf
    have b1 : w2.cell? ⟨xb, 1, none⟩ = some (.int .i64 a) := cell_of_block HB2.out 1
    go_wp2_with fail
    have s0 : w2.drew.cell? ⟨xb, 1, none⟩ = some (.int .i64 a) := b1
    refine heldStart (fun wz => wz.cell? ⟨xb, 1, none⟩ = some (.int .i64 a)) (by kernel_rfl) ?_
    have n2 : New w2 w2.drew := (Fr.refl _ _).drew
    have HFM2 := Lib.hid (HFM.out.new n2)
    have HFR2 := Lib.hid (Fr34.new (o := o) HFM.out.fr.lt n2)
    have hxf : xb ≠ fb := by omega
    clear b1
    generalize w2.drew = w3 at s0 HFM2 HFR2 n2 ⊢
    refine wpAnyH_take (i := 0) (v := ?_) rfl (by kernel_rfl) (by kernel_rfl) (by kernel_rfl) (fun _ _ _ h => h) (Or.inl ⟨by rfl, ?_⟩) s0 ?_
    rotate_left
    · intro w hSw; first | (obtain ⟨s1, s2, s3, s4, s5, s6, s7, s8⟩ := hSw; go_simp; rfl) | (obtain ⟨s1, s2, s3, s4, s5, s6, s7⟩ := hSw; go_simp; rfl) | (obtain ⟨s1, s2, s3⟩ := hSw; go_simp; rfl) | (obtain ⟨s1, s2⟩ := hSw; go_simp; rfl) | (have s1 := hSw; go_simp; rfl)
    go_simp
    refine wpAnyH_take (i := 1) (v := ?_) rfl (by kernel_rfl) (by kernel_rfl) (by kernel_rfl) (fun _ _ _ h => h) (Or.inl ⟨by rfl, ?_⟩) s0 ?_
    rotate_left
    · intro w hSw; first | (obtain ⟨s1, s2, s3, s4, s5, s6, s7, s8⟩ := hSw; go_simp; rfl) | (obtain ⟨s1, s2, s3, s4, s5, s6, s7⟩ := hSw; go_simp; rfl) | (obtain ⟨s1, s2, s3⟩ := hSw; go_simp; rfl) | (obtain ⟨s1, s2⟩ := hSw; go_simp; rfl) | (have s1 := hSw; go_simp; rfl)
    go_simp
    refine wpAnyH_take (i := 2) (v := ?_) rfl (by kernel_rfl) (by kernel_rfl) (by kernel_rfl) (fun _ _ _ h => h) (Or.inl ⟨by rfl, ?_⟩) s0 ?_
    rotate_left
    · intro w hSw; first | (obtain ⟨s1, s2, s3, s4, s5, s6, s7, s8⟩ := hSw; go_simp; rfl) | (obtain ⟨s1, s2, s3, s4, s5, s6, s7⟩ := hSw; go_simp; rfl) | (obtain ⟨s1, s2, s3⟩ := hSw; go_simp; rfl) | (obtain ⟨s1, s2⟩ := hSw; go_simp; rfl) | (have s1 := hSw; go_simp; rfl)
    go_simp
    refine wpAnyH_take (i := 3) (v := ?_) rfl (by kernel_rfl) (by kernel_rfl) (by kernel_rfl) (fun _ _ _ h => h) (Or.inl ⟨by rfl, ?_⟩) s0 ?_
    rotate_left
    · intro w hSw; first | (obtain ⟨s1, s2, s3, s4, s5, s6, s7, s8⟩ := hSw; go_simp; rfl) | (obtain ⟨s1, s2, s3, s4, s5, s6, s7⟩ := hSw; go_simp; rfl) | (obtain ⟨s1, s2, s3⟩ := hSw; go_simp; rfl) | (obtain ⟨s1, s2⟩ := hSw; go_simp; rfl) | (have s1 := hSw; go_simp; rfl)
    go_simp
    refine wpAnyH_take (i := 4) (v := ?_) rfl (by kernel_rfl) (by kernel_rfl) (by kernel_rfl) (fun _ _ _ h => h) (Or.inl ⟨by rfl, ?_⟩) s0 ?_
    rotate_left
    · intro w hSw; first | (obtain ⟨s1, s2, s3, s4, s5, s6, s7, s8⟩ := hSw; go_simp; rfl) | (obtain ⟨s1, s2, s3, s4, s5, s6, s7⟩ := hSw; go_simp; rfl) | (obtain ⟨s1, s2, s3⟩ := hSw; go_simp; rfl) | (obtain ⟨s1, s2⟩ := hSw; go_simp; rfl) | (have s1 := hSw; go_simp; rfl)
    go_simp
    refine wpAnyH_take (i := 5) (v := ?_) rfl (by kernel_rfl) (by kernel_rfl) (by kernel_rfl) (fun _ _ _ h => h) (Or.inl ⟨by rfl, ?_⟩) s0 ?_
    rotate_left
    · intro w hSw; first | (obtain ⟨s1, s2, s3, s4, s5, s6, s7, s8⟩ := hSw; go_simp; rfl) | (obtain ⟨s1, s2, s3, s4, s5, s6, s7⟩ := hSw; go_simp; rfl) | (obtain ⟨s1, s2, s3⟩ := hSw; go_simp; rfl) | (obtain ⟨s1, s2⟩ := hSw; go_simp; rfl) | (have s1 := hSw; go_simp; rfl)
    go_simp
    refine wpAnyH_take (i := 6) (v := ?_) rfl (by kernel_rfl) (by kernel_rfl) (by kernel_rfl) (fun _ _ _ h => h) (Or.inl ⟨by rfl, ?_⟩) s0 ?_
    rotate_left
    · intro w hSw; first | (obtain ⟨s1, s2, s3, s4, s5, s6, s7, s8⟩ := hSw; go_simp; rfl) | (obtain ⟨s1, s2, s3, s4, s5, s6, s7⟩ := hSw; go_simp; rfl) | (obtain ⟨s1, s2, s3⟩ := hSw; go_simp; rfl) | (obtain ⟨s1, s2⟩ := hSw; go_simp; rfl) | (have s1 := hSw; go_simp; rfl)
    go_simp
    refine heldOne (i := 7) (by kernel_rfl) rfl (by rfl) (fun K hK => ?_)
    have ya := HFM2.out.fr.regD ha
    have yz := HFM2.out.fr.free
    go_simp
    have HS5 := Lib.hid (HFM2.out.setReg ha hX)
    have HF5 := Lib.hid (HFR2.out.trans (Fr34.set (fb := fb) (o := o) (i := o + 1 + a) (.int .u64 (X : Nat)) (by omega) (by omega)))
    have s5 : (w3.setCell ⟨fb, o + 1 + a, none⟩ (.int .u64 (X : Nat))).cell? ⟨xb, 1, none⟩ = some (.int .i64 a) := by rw [cell_set_ne _ (.inl (Ne.symm hxf))]; exact s0
    refine hK.out _ _ s5 ?_
    clear hK ya yz
    refine wpAnyH_done (by kernel_rfl) ?_ _
    clear s0 n2
    generalize w3.setCell ⟨fb, o + 1 + a, none⟩ (.int .u64 (X : Nat)) = w5 at HS5 HF5 s5 ⊢
    have d0 : w5.cell? ⟨fb, o, none⟩ = some (.int .i64 k) := by rw [← HPC.out]; exact HS5.out.fr.pc
    have zf : ∀ i, w5.frozen? ⟨fb, i, none⟩ = false := HS5.out.fr.free
    clear s5
    go_wp2
    go_ret2
    have f5 := HF5.out.trans (Fr34.set (.int .i64 ((k : Int) + 1)) (Nat.le_refl _) (by omega))
    exact ⟨_, _, rfl, HFIN.out _ _ _ rfl rfl (by rw [HPC.out]; exact HS5.out.setPc _) (HMR.out.keep f5.fr (Ne.symm hap.1) (Ne.symm hap.2.1) (Ne.symm hap.2.2)) (HF.out.trans (f5.fr.mono (fun _ _ h => .inl h)))⟩
  | some x =>
    obtain ⟨q, kk⟩ := x
    go_enter Tryd.func10, Tryd.ntmps10
    go_wp2_with fail
    refine (HM.out _).mono ?_
    rintro e w1 ⟨rfl, hn1⟩
    obtain ⟨_, y0, y1, y2, y3, y4, y5, y6⟩ := HI.out.keep hn1 id
    have d0 := (hn1.cell hl id _).trans c0
    have HN1 := Lib.hid hn1
    clear c0 x0 x1 x2 x3 x4 x5 x6 hn1
    go_wp2_with fail
    obtain ⟨W0, hW0⟩ : ∃ W0, w1.alloc (.cells #[.int .i64 21, .int .i64 a, .int .i64 B, .int .i64 C, .int .u64 V, .int .i64 M, .int .i64 W] 52) = W0 := ⟨_, rfl⟩
    have hn0 : New w W0 := by rw [← hW0]; exact HN1.out.alloc _
    rw [hW0]
    have HN0 := Lib.hid hn0
    clear hW0 hn0 d0 y0 y1 y2 y3 y4 y5 y6
    refine (HAC.out W0 HN0.out).mono ?_
    rintro e w2 ⟨er, rfl, hsy, hmr, hf⟩
    obtain ⟨eb, rfl⟩ := hsy.at
    have hn2 : New w w2 := HN0.out.trans (hf.mono (fun _ _ h => by cases h.1))
    have d0 := (hn2.cell hl id o).trans H.out.fr.pc
    rw [HPC.out] at d0
    have HV := Lib.hid hsy
    have HN2 := Lib.hid hn2
    have HMR := Lib.hid hmr
    clear hsy hmr hf hn2
    go_wp2_with fail
    refine (vfail_in k kk _ _ _ HV.out.1).mono ?_
    rintro e w3 ⟨eb3, rfl, he3, hn3⟩
    have HE3 := Lib.hid he3
    have HN3 := Lib.hid (HN2.out.trans hn3)
    have HMR3 := Lib.hid (HMR.out.keep hn3 id id id)
    clear he3 hn3
    go_wp2
    go_ret2
    exact ⟨_, _, rfl, HFIN.out _ _ _ rfl (by rw [HPC.out]; exact ⟨HE3.out, HV.out.2⟩) (H.out.new HN3.out) HMR3.out (HN3.out.mono (fun _ _ h => h.elim))⟩
theorem step_acc (op A B C : Int) (V : Nat) (M W : Int) (h : FmAt w fb o v F) (hi : InsAt w cg co k op A B C V M W) (hk : k < n) (hn : n ≤ 1000000) (hV : V < 18446744073709551616) (hpc : F.pc = k) (hg : goodV op A B C V n = true) (hA : 0 ≤ A ∧ A < 32) (hC : op = 21 → 0 ≤ C ∧ C < 32)
    (ho : 17 ≤ op ∧ op ≤ 21) (hm : MemRep w mb cb wb cs ws th ct) (hct : ct + 1 < 1000000000) (hap : fb ≠ mb ∧ fb ≠ cb ∧ fb ≠ wb) (hvp : v.ownBlock ≠ some mb ∧ v.ownBlock ≠ some cb) :
    Calls Tryd.prog 10 #[.pointer (some ⟨fb, o, none⟩), .slice (some ⟨cg, co, none⟩) n cap, memV mb] w fun e w' => ∃ r er, e = .returned (.tuple #[r, er]) ∧ AccRes w fb o mb cb wb v F cs ws th ct op A.toNat B C V r er w' := by
  obtain ⟨a, rfl⟩ := Int.eq_ofNat_of_zero_le hA.1
  have ha : a < 32 := by omega
  rcases (show op = 17 ∨ op = 18 ∨ op = 19 ∨ op = 20 ∨ op = 21 by omega) with rfl | rfl | rfl | rfl | rfl
  · exact step_acc17 fb o mb cb wb v F cs ws th ct cg co n cap k w a B C V M W h hi hk hn hV hpc hg ha hC hm hct hap hvp
  · exact step_acc18 fb o mb cb wb v F cs ws th ct cg co n cap k w a B C V M W h hi hk hn hV hpc hg ha hC hm hct hap hvp
  · exact step_acc19 fb o mb cb wb v F cs ws th ct cg co n cap k w a B C V M W h hi hk hn hV hpc hg ha hC hm hct hap hvp
  · exact step_acc20 fb o mb cb wb v F cs ws th ct cg co n cap k w a B C V M W h hi hk hn hV hpc hg ha hC hm hct hap hvp
  · exact step_acc21 fb o mb cb wb v F cs ws th ct cg co n cap k w a B C V M W h hi hk hn hV hpc hg ha hC hm hct hap hvp
end

end Go.Proofs.YtngpcalgjaglmaaDoor
