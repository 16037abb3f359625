/- Both tables side by side: whom a call is about; one call at both. -/
import Derived.Test.YtpfkfajgbaakoaaDoorTabI
import Derived.Test.YtpfkfajgbaakoaaDoorWithin
namespace Go.Proofs.YtpfkfajgbaakoaaDoor
open Go.RowKit

/-- Both, side by side, behind j calls: w0 is the world ahead of them. -/
structure StT (w0 w : World) (b rb b2 lb : Nat) (l : List TR) (j : Nat) : Prop where
  p : PRep w b rb l
  d : DRep w b2 lb l
  pl : Placed l
  tk : Times l j
  ap : b ≠ lb ∧ rb ≠ b2 ∧ rb ≠ lb
  fr : w0.heap.size ≤ rb ∧ w0.heap.size ≤ lb
  n : New w0 w
section
variable {w0 w w' w2 : World} {b rb b2 lb j j' : Nat} {l l' : List TR} {P Q : Prop}
theorem StT.new (h : StT w0 w b rb b2 lb l j) (f : New w w') : StT w0 w' b rb b2 lb l j := ⟨h.p.new f, h.d.new f, h.pl, h.tk, h.ap, h.fr, h.n.trans f⟩
theorem StT.up (h : StT w0 w b rb b2 lb l j) : StT w0 w b rb b2 lb l (j + 1) := ⟨h.p, h.d, h.pl, h.tk.up, h.ap, h.fr, h.n⟩
theorem StT.lt999 (h : StT w0 w b rb b2 lb l j) (hj : j ≤ 200) : ∀ r ∈ l, r.times < 999999 := fun r hr => by have := h.tk r hr; omega
/-- The other's part behind one's call. -/
theorem StT.midD (h : StT w0 w b rb b2 lb l j) (f : Fr (fun k => P ∧ k = rb) w w') : DRep w' b2 lb l := h.d.keep f (fun e => h.ap.2.1 e.2.symm) (fun e => h.ap.2.2 e.2.symm)
theorem StT.midP (h : StT w0 w b rb b2 lb l j) (f : Fr (fun k => P ∧ k = lb) w w') : PRep w' b rb l := h.p.keep f (fun e => h.ap.1 e.2) (fun e => h.ap.2.2 e.2)
theorem StT.both (h : StT w0 w b rb b2 lb l j) (hp : PRep w' b rb l') (f : Fr (fun k => P ∧ k = rb) w w') (hd : DRep w2 b2 lb l') (f2 : Fr (fun k => Q ∧ k = lb) w' w2) (hpl : Placed l') (htk : Times l' j') : StT w0 w2 b rb b2 lb l' j' :=
  ⟨hp.keep f2 (fun e => h.ap.1 e.2) (fun e => h.ap.2.2 e.2), hd, hpl, htk, h.ap, h.fr, (h.n.then f (fun i hi e => by have := h.fr.1; have := e.2; omega)).then f2 (fun i hi e => by have := h.fr.2; have := e.2; omega)⟩
theorem StT.both' (h : StT w0 w b rb b2 lb l j) (hd : DRep w' b2 lb l') (f : Fr (fun k => P ∧ k = lb) w w') (hp : PRep w2 b rb l') (f2 : Fr (fun k => Q ∧ k = rb) w' w2) (hpl : Placed l') (htk : Times l' j') : StT w0 w2 b rb b2 lb l' j' :=
  ⟨hp, hd.keep f2 (fun e => h.ap.2.1 e.2.symm) (fun e => h.ap.2.2 e.2.symm), hpl, htk, h.ap, h.fr, (h.n.then f (fun i hi e => by have := h.fr.2; have := e.2; omega)).then f2 (fun i hi e => by have := h.fr.1; have := e.2; omega)⟩
end

set_option maxRecDepth 100000 in
set_option maxHeartbeats 2000000 in
theorem id_any (b2 lb : Nat) (l : List TR) (d who S : Int) (u v : Nat) (w : World) (hr : DRep w b2 lb l) (hpl : Placed l) (hu : u < 18446744073709551616) (hw1 : -9223372036854775808 ≤ who) (hw2 : who ≤ 9223372036854775807) :
    Calls Tryd.prog 25 #[.pointer (some ⟨b2, 0, none⟩), .agg #[.int .i64 d, .int .i64 who, .int .u64 u, .int .u64 v, .int .i64 S]] w fun e w' => ∃ h : Nat, e = .returned (.int .u64 h) ∧ h < 18446744073709551616 ∧ New w w' := by
  have HALL := Lib.hid (fun (w' : World) (f : New w w') => dall_any b2 lb l w' (hr.new f) hpl)
  have hlen := hr.len
  have hlive := live_le l
  have hU : ∀ r ∈ live l, r.id < 18446744073709551616 := fun r hr => by
    obtain ⟨h1, h2⟩ := List.mem_filter.1 hr
    obtain ⟨p, hp⟩ := List.mem_iff_getElem?.1 h1
    have h3 := (hpl p r hp).1 h2
    have h4 := (List.getElem?_eq_some_iff.1 hp).1
    omega
  have HU := Lib.hid hU
  clear hr hpl hU
  go_enter Tryd.func25, Tryd.ntmps25
  go_wp2_with fail
  obtain ⟨W0, hW0⟩ : ∃ W0, w.alloc (.cells #[.int .i64 d, .int .i64 who, .int .u64 u, .int .u64 v, .int .i64 S] 42) = W0 := ⟨_, rfl⟩
  have hx0 : Arr W0 w.heap.size [.int .i64 d, .int .i64 who, .int .u64 u, .int .u64 v, .int .i64 S] := by rw [← hW0]; exact Arr.new _ _ _
  have hn0 : New w W0 := by rw [← hW0]; exact (Fr.refl _ _).alloc _
  rw [hW0]
  obtain ⟨xb, hxb⟩ : ∃ xb, w.heap.size = xb := ⟨_, rfl⟩
  rw [hxb] at hx0 ⊢
  clear hW0 hxb
  refine (HALL.out W0 hn0).mono ?_
  rintro e w1 ⟨vl, rfl, hown, hn1⟩
  have x1 : w1.cell? ⟨xb, 1, none⟩ = some (.int .i64 who) := (hx0.keep hn1 id).cell 1 _ rfl
  have x2 : w1.cell? ⟨xb, 2, none⟩ = some (.int .u64 u) := (hx0.keep hn1 id).cell 2 _ rfl
  have HN1 := Lib.hid (hn0.trans hn1)
  obtain ⟨al, cl, rfl, _⟩ := owned_form hown
  have hcl := doc_cap hown
  have hat := fun (p : Nat) (r : TR) (h : (live l)[p]? = some r) => flat_at tC 7 tC_len hown h (by omega)
  have HAT := Lib.hid hat
  obtain ⟨N, hN⟩ : ∃ N, (live l).length = N := ⟨_, rfl⟩
  rw [hN] at hlive hcl ⊢
  have HNN := Lib.hid hN
  clear hown hat hN hx0 hn0 hn1 HALL
  by_cases hw : 0 ≤ who
  · by_cases hN0 : 0 < N
    · have hm1 : 0 ≤ who.tmod N := Int.tmod_nonneg _ hw
      have hm2 : who.tmod N < N := Int.tmod_lt_of_pos _ (by omega)
      obtain ⟨p, hp⟩ := Int.eq_ofNat_of_zero_le hm1
      rw [hp] at hm2
      obtain ⟨r, hr⟩ : ∃ r, (live l)[p]? = some r := ⟨(live l)[p]'(by rw [HNN.out]; omega), by simp⟩
      obtain ⟨g2, rfl, hg2, e2⟩ := HAT.out p r hr
      have y0 : w1.cell? ⟨g2, p * 7, none⟩ = some (.int .u64 r.id) := e2 0 _ rfl
      have hru := HU.out r (List.mem_of_getElem? hr)
      have q1 : (0 : Int) ≤ (p : Int) := by omega
      have q2 : (p : Int) < (cl : Int) := by omega
      have q3 : ¬ (N : Int) = 0 := by omega
      have q4 : ((N : Int) == 0) = false := by rw [beq_eq_false_iff_ne]; omega
      clear e2 hr hm1
      go_wp2_with fail
      go_ret
      exact ⟨r.id, rfl, hru, HN1.out⟩
    · have q4 : ((N : Int) == 0) = true := by rw [beq_iff_eq]; omega
      go_wp2_with fail
      go_ret
      exact ⟨u, rfl, hu, HN1.out⟩
  · go_wp2_with fail
    go_ret
    exact ⟨u, rfl, hu, HN1.out⟩

set_option maxRecDepth 100000 in
set_option maxHeartbeats 4000000 in
theorem do_be (w0 : World) (b rb b2 lb : Nat) (l : List TR) (j : Nat) (d who S : Int) (u v : Nat) (w : World) (hg : Laid w0) (h : StT w0 w b rb b2 lb l j) (hj : j ≤ 150) (hu : u < 18446744073709551616) (hv : v < 18446744073709551616) (hw1 : -9223372036854775808 ≤ who) (hw2 : who ≤ 9223372036854775807) (hd1 : -9223372036854775808 ≤ d) (hd2 : d ≤ 9223372036854775807) (hq : d % 10 = 3) :
    Calls Tryd.prog 26 #[.pointer (some ⟨b, 0, none⟩), .pointer (some ⟨b2, 0, none⟩), .agg #[.int .i64 d, .int .i64 who, .int .u64 u, .int .u64 v, .int .i64 S]] w fun e w' => e = .returned (.bool true) ∧ ∃ l', StT w0 w' b rb b2 lb l' (j + 1) := by
  have H := Lib.hid h
  have HG := Lib.hid hg
  have hwi := fun w => within_any d 10 w (by omega) (by omega) hd1 hd2
  rw [hq] at hwi
  have HWI := Lib.hid hwi
  clear h hg hwi
  go_enter Tryd.func26, Tryd.ntmps26
  go_wp2_with fail
  obtain ⟨W0, hW0⟩ : ∃ W0, w.alloc (.cells #[.int .i64 d, .int .i64 who, .int .u64 u, .int .u64 v, .int .i64 S] 42) = W0 := ⟨_, rfl⟩
  have hx0 : Arr W0 w.heap.size [.int .i64 d, .int .i64 who, .int .u64 u, .int .u64 v, .int .i64 S] := by rw [← hW0]; exact Arr.new _ _ _
  have hn0 : New w W0 := by rw [← hW0]; exact (Fr.refl _ _).alloc _
  rw [hW0]
  have hax : rb < w.heap.size ∧ lb < w.heap.size := ⟨H.out.p.rows.lt, H.out.d.rows.lt⟩
  obtain ⟨xb, hxb⟩ : ∃ xb, w.heap.size = xb := ⟨_, rfl⟩
  rw [hxb] at hx0 hax ⊢
  have H0 := Lib.hid (H.out.new hn0)
  clear hW0 hxb H hn0
  refine (id_any b2 lb l d who S u v W0 H0.out.d H0.out.pl hu hw1 hw2).mono ?_
  rintro e w1 ⟨h, rfl, hh, hn1⟩
  have H1 := Lib.hid (H0.out.new hn1)
  have HX := Lib.hid (hx0.keep hn1 id)
  have x0 : w1.cell? ⟨xb, 0, none⟩ = some (.int .i64 d) := HX.out.cell 0 _ rfl
  have x3 : w1.cell? ⟨xb, 3, none⟩ = some (.int .u64 v) := HX.out.cell 3 _ rfl
  have x4 : w1.cell? ⟨xb, 4, none⟩ = some (.int .i64 S) := HX.out.cell 4 _ rfl
  have hxl := HX.out.lt
  clear H0 hx0 hn1
  go_wp2_with (go_at_call 15; refine (HWI.out _).mono ?_; rintro e w' ⟨rfl, rfl⟩)
  refine heldStart (fun W1 => W1.cell? ⟨xb, 4, none⟩ = some (.int .i64 S)) (by kernel_rfl) ?_
  have s0 : w1.drew.cell? ⟨xb, 4, none⟩ = some (.int .i64 S) := x4
  have HD := Lib.hid (H1.out.new ((Fr.refl _ _).drew))
  have hxl0 : xb < w1.drew.heap.size := hxl
  clear x0 x3 x4 hxl HX H1
  generalize w1.drew = V0 at s0 HD hxl0 ⊢
  have hpc := pbe_any b rb l h S V0 HD.out.p hh
  have hdc := fun w2 (h2 : DRep w2 b2 lb l) => dbe_any b2 lb l h S w2 h2 HD.out.pl hh
  have hpl2 : Placed (onL l h (beR S)) := Placed.on HD.out.pl h (mild_be S)
  have htk2 : Times (onL l h (beR S)) (j + 1) := (Times.on HD.out.tk h (mild_be S)).up
  unfold EndP at hpc
  unfold EndD at hdc
  generalize onE l h (beE S) = oe at hpc hdc
  generalize onL l h (beR S) = l2 at hpc hdc hpl2 htk2
  have HPC := Lib.hid hpc
  have HDC := Lib.hid hdc
  have HPL := Lib.hid hpl2
  have HTK := Lib.hid htk2
  clear hpc hdc hpl2 htk2
  refine wpAnyH_take (i := 0) (v := ?_) rfl (by kernel_rfl) (by kernel_rfl) (by kernel_rfl) (fun _ _ _ h => h) (Or.inl ⟨by rfl, ?_⟩) s0 ?_
  rotate_left
  · intro w hSw; first | (obtain ⟨s1, s2, s3, s4, s5, s6, s7, s8⟩ := hSw; go_simp; rfl) | (obtain ⟨s1, s2, s3, s4, s5, s6, s7⟩ := hSw; go_simp; rfl) | (obtain ⟨s1, s2, s3⟩ := hSw; go_simp; rfl) | (obtain ⟨s1, s2⟩ := hSw; go_simp; rfl) | (have s1 := hSw; go_simp; rfl)
  go_simp
  refine wpAnyH_take (i := 1) (v := ?_) rfl (by kernel_rfl) (by kernel_rfl) (by kernel_rfl) (fun _ _ _ h => h) (Or.inl ⟨by rfl, ?_⟩) s0 ?_
  rotate_left
  · intro w hSw; first | (obtain ⟨s1, s2, s3, s4, s5, s6, s7, s8⟩ := hSw; go_simp; rfl) | (obtain ⟨s1, s2, s3, s4, s5, s6, s7⟩ := hSw; go_simp; rfl) | (obtain ⟨s1, s2, s3⟩ := hSw; go_simp; rfl) | (obtain ⟨s1, s2⟩ := hSw; go_simp; rfl) | (have s1 := hSw; go_simp; rfl)
  go_simp
  refine wpAnyH_take (i := 2) (v := ?_) rfl (by kernel_rfl) (by kernel_rfl) (by kernel_rfl) (fun _ _ _ h => h) (Or.inl ⟨by rfl, ?_⟩) s0 ?_
  rotate_left
  · intro w hSw; first | (obtain ⟨s1, s2, s3, s4, s5, s6, s7, s8⟩ := hSw; go_simp; rfl) | (obtain ⟨s1, s2, s3, s4, s5, s6, s7⟩ := hSw; go_simp; rfl) | (obtain ⟨s1, s2, s3⟩ := hSw; go_simp; rfl) | (obtain ⟨s1, s2⟩ := hSw; go_simp; rfl) | (have s1 := hSw; go_simp; rfl)
  go_simp
  refine wpAnyH_take (i := 3) (v := ?_) rfl (by kernel_rfl) (by kernel_rfl) (by kernel_rfl) (fun _ _ _ h => h) (Or.inl ⟨by rfl, ?_⟩) s0 ?_
  rotate_left
  · intro w hSw; first | (obtain ⟨s1, s2, s3, s4, s5, s6, s7, s8⟩ := hSw; go_simp; rfl) | (obtain ⟨s1, s2, s3, s4, s5, s6, s7⟩ := hSw; go_simp; rfl) | (obtain ⟨s1, s2, s3⟩ := hSw; go_simp; rfl) | (obtain ⟨s1, s2⟩ := hSw; go_simp; rfl) | (have s1 := hSw; go_simp; rfl)
  go_simp
  refine wpAnyH_take (i := 5) (v := ?_) rfl (by kernel_rfl) (by kernel_rfl) (by kernel_rfl) (fun _ _ _ h => h) (Or.inl ⟨by rfl, ?_⟩) s0 ?_
  rotate_left
  · intro w hSw; first | (obtain ⟨s1, s2, s3, s4, s5, s6, s7, s8⟩ := hSw; go_simp; rfl) | (obtain ⟨s1, s2, s3, s4, s5, s6, s7⟩ := hSw; go_simp; rfl) | (obtain ⟨s1, s2, s3⟩ := hSw; go_simp; rfl) | (obtain ⟨s1, s2⟩ := hSw; go_simp; rfl) | (have s1 := hSw; go_simp; rfl)
  go_simp
  refine wpAnyH_take (i := 6) (v := ?_) rfl (by kernel_rfl) (by kernel_rfl) (by kernel_rfl) (fun _ _ _ h => h) (Or.inl ⟨by rfl, ?_⟩) s0 ?_
  rotate_left
  · intro w hSw; first | (obtain ⟨s1, s2, s3, s4, s5, s6, s7, s8⟩ := hSw; go_simp; rfl) | (obtain ⟨s1, s2, s3, s4, s5, s6, s7⟩ := hSw; go_simp; rfl) | (obtain ⟨s1, s2, s3⟩ := hSw; go_simp; rfl) | (obtain ⟨s1, s2⟩ := hSw; go_simp; rfl) | (have s1 := hSw; go_simp; rfl)
  go_simp
  refine wpAnyH_take (i := 7) (v := ?_) rfl (by kernel_rfl) (by kernel_rfl) (by kernel_rfl) (fun _ _ _ h => h) (Or.inl ⟨by rfl, ?_⟩) s0 ?_
  rotate_left
  · intro w hSw; first | (obtain ⟨s1, s2, s3, s4, s5, s6, s7, s8⟩ := hSw; go_simp; rfl) | (obtain ⟨s1, s2, s3, s4, s5, s6, s7⟩ := hSw; go_simp; rfl) | (obtain ⟨s1, s2, s3⟩ := hSw; go_simp; rfl) | (obtain ⟨s1, s2⟩ := hSw; go_simp; rfl) | (have s1 := hSw; go_simp; rfl)
  go_simp
  refine wpAnyH_take (i := 8) (v := ?_) rfl (by kernel_rfl) (by kernel_rfl) (by kernel_rfl) (fun _ _ _ h => h) (Or.inl ⟨by rfl, ?_⟩) s0 ?_
  rotate_left
  · intro w hSw; first | (obtain ⟨s1, s2, s3, s4, s5, s6, s7, s8⟩ := hSw; go_simp; rfl) | (obtain ⟨s1, s2, s3, s4, s5, s6, s7⟩ := hSw; go_simp; rfl) | (obtain ⟨s1, s2, s3⟩ := hSw; go_simp; rfl) | (obtain ⟨s1, s2⟩ := hSw; go_simp; rfl) | (have s1 := hSw; go_simp; rfl)
  go_simp
  refine heldOne (i := 4) (by kernel_rfl) rfl (by rfl) (fun K hK => ?_)
  go_simp
  refine HPC.out.mono ?_
  rintro e w3 ⟨x, rfl, hx, hr3, f3⟩
  have s1 : w3.cell? ⟨xb, 4, none⟩ = some (.int .i64 S) := (f3.cell hxl0 (fun e => by have := e.2; omega) _).trans s0
  have hxl1 := Nat.lt_of_lt_of_le hxl0 f3.size
  have HD3 := Lib.hid (HD.out.midD f3)
  have HR3 := Lib.hid hr3
  have F3 := Lib.hid f3
  have HS3 := Lib.hid hx
  refine hK.out _ _ s1 ?_
  clear hK K hx hr3 f3 s0 HPC
  refine heldOne (i := 9) (by kernel_rfl) rfl (by rfl) (fun K hK => ?_)
  go_simp
  refine (HDC.out w3 HD3.out).mono ?_
  rintro e w4 ⟨f, rfl, hfl, hd4, f4⟩
  have s2 : w4.cell? ⟨xb, 4, none⟩ = some (.int .i64 S) := (f4.cell hxl1 (fun e => by have := e.2; omega) _).trans s1
  have hx4 := Says.keepIf f4 HS3.out
  have G4 := Lib.hid (HD.out.both HR3.out F3.out hd4 f4 HPL.out HTK.out)
  have HSM := Lib.hid (same_says x f tabL _ w4 (HG.out.keep G4.out.n id) hx4 hfl)
  have hxl2 := Nat.lt_of_lt_of_le hxl1 f4.size
  refine hK.out _ _ s2 ?_
  clear hK K hfl hd4 f4 hx4 HD3 HR3 F3 HS3 s1 HDC
  refine heldOne (i := 10) (by kernel_rfl) rfl (by rfl) (fun K hK => ?_)
  go_simp
  refine HSM.out.mono ?_
  rintro e w5 ⟨rfl, hn5⟩
  have G5 := Lib.hid (G4.out.new hn5)
  have s3 : w5.cell? ⟨xb, 4, none⟩ = some (.int .i64 S) := (hn5.cell hxl2 id _).trans s2
  refine hK.out _ _ s3 ?_
  clear hK K hn5 s2
  refine wpAnyH_take (i := 11) (v := ?_) rfl (by kernel_rfl) (by kernel_rfl) (by kernel_rfl) (fun _ _ _ h => h) (Or.inl ⟨by rfl, ?_⟩) s3 ?_
  rotate_left
  · intro w hSw; first | (obtain ⟨s1, s2, s3, s4, s5, s6, s7, s8⟩ := hSw; go_simp; rfl) | (obtain ⟨s1, s2, s3, s4, s5, s6, s7⟩ := hSw; go_simp; rfl) | (obtain ⟨s1, s2, s3⟩ := hSw; go_simp; rfl) | (obtain ⟨s1, s2⟩ := hSw; go_simp; rfl) | (have s1 := hSw; go_simp; rfl)
  go_simp
  refine wpAnyH_done (by kernel_rfl) ?_ _
  go_wp2
  go_ret
  exact ⟨rfl, _, G5.out⟩

set_option maxRecDepth 100000 in
set_option maxHeartbeats 4000000 in
theorem do_join (w0 : World) (b rb b2 lb : Nat) (l : List TR) (j : Nat) (d who S : Int) (u v : Nat) (w : World) (hg : Laid w0) (h : StT w0 w b rb b2 lb l j) (hj : j ≤ 150) (hu : u < 18446744073709551616) (hv : v < 18446744073709551616) (hw1 : -9223372036854775808 ≤ who) (hw2 : who ≤ 9223372036854775807) (hd1 : -9223372036854775808 ≤ d) (hd2 : d ≤ 9223372036854775807) (hq : d % 10 = 4) :
    Calls Tryd.prog 26 #[.pointer (some ⟨b, 0, none⟩), .pointer (some ⟨b2, 0, none⟩), .agg #[.int .i64 d, .int .i64 who, .int .u64 u, .int .u64 v, .int .i64 S]] w fun e w' => e = .returned (.bool true) ∧ ∃ l', StT w0 w' b rb b2 lb l' (j + 1) := by
  have H := Lib.hid h
  have HG := Lib.hid hg
  have hwi := fun w => within_any d 10 w (by omega) (by omega) hd1 hd2
  rw [hq] at hwi
  have HWI := Lib.hid hwi
  clear h hg hwi
  go_enter Tryd.func26, Tryd.ntmps26
  go_wp2_with fail
  obtain ⟨W0, hW0⟩ : ∃ W0, w.alloc (.cells #[.int .i64 d, .int .i64 who, .int .u64 u, .int .u64 v, .int .i64 S] 42) = W0 := ⟨_, rfl⟩
  have hx0 : Arr W0 w.heap.size [.int .i64 d, .int .i64 who, .int .u64 u, .int .u64 v, .int .i64 S] := by rw [← hW0]; exact Arr.new _ _ _
  have hn0 : New w W0 := by rw [← hW0]; exact (Fr.refl _ _).alloc _
  rw [hW0]
  have hax : rb < w.heap.size ∧ lb < w.heap.size := ⟨H.out.p.rows.lt, H.out.d.rows.lt⟩
  obtain ⟨xb, hxb⟩ : ∃ xb, w.heap.size = xb := ⟨_, rfl⟩
  rw [hxb] at hx0 hax ⊢
  have H0 := Lib.hid (H.out.new hn0)
  clear hW0 hxb H hn0
  refine (id_any b2 lb l d who S u v W0 H0.out.d H0.out.pl hu hw1 hw2).mono ?_
  rintro e w1 ⟨h, rfl, hh, hn1⟩
  have H1 := Lib.hid (H0.out.new hn1)
  have HX := Lib.hid (hx0.keep hn1 id)
  have x0 : w1.cell? ⟨xb, 0, none⟩ = some (.int .i64 d) := HX.out.cell 0 _ rfl
  have x3 : w1.cell? ⟨xb, 3, none⟩ = some (.int .u64 v) := HX.out.cell 3 _ rfl
  have x4 : w1.cell? ⟨xb, 4, none⟩ = some (.int .i64 S) := HX.out.cell 4 _ rfl
  have hxl := HX.out.lt
  clear H0 hx0 hn1
  go_wp2_with (go_at_call 15; refine (HWI.out _).mono ?_; rintro e w' ⟨rfl, rfl⟩)
  refine heldStart (fun W1 => W1.cell? ⟨xb, 3, none⟩ = some (.int .u64 v)) (by kernel_rfl) ?_
  have s0 : w1.drew.cell? ⟨xb, 3, none⟩ = some (.int .u64 v) := x3
  have HD := Lib.hid (H1.out.new ((Fr.refl _ _).drew))
  have hxl0 : xb < w1.drew.heap.size := hxl
  clear x0 x3 x4 hxl HX H1
  generalize w1.drew = V0 at s0 HD hxl0 ⊢
  have hpc := pjoin_any b rb l h v V0 HD.out.p hh
  have hdc := fun w2 (h2 : DRep w2 b2 lb l) => djoin_any b2 lb l h v w2 h2 HD.out.pl hh
  have hpl2 : Placed (onL l h (joinR v)) := Placed.on HD.out.pl h (mild_join v)
  have htk2 : Times (onL l h (joinR v)) (j + 1) := (Times.on HD.out.tk h (mild_join v)).up
  unfold EndP at hpc
  unfold EndD at hdc
  generalize onE l h (joinE v) = oe at hpc hdc
  generalize onL l h (joinR v) = l2 at hpc hdc hpl2 htk2
  have HPC := Lib.hid hpc
  have HDC := Lib.hid hdc
  have HPL := Lib.hid hpl2
  have HTK := Lib.hid htk2
  clear hpc hdc hpl2 htk2
  refine wpAnyH_take (i := 0) (v := ?_) rfl (by kernel_rfl) (by kernel_rfl) (by kernel_rfl) (fun _ _ _ h => h) (Or.inl ⟨by rfl, ?_⟩) s0 ?_
  rotate_left
  · intro w hSw; first | (obtain ⟨s1, s2, s3, s4, s5, s6, s7, s8⟩ := hSw; go_simp; rfl) | (obtain ⟨s1, s2, s3, s4, s5, s6, s7⟩ := hSw; go_simp; rfl) | (obtain ⟨s1, s2, s3⟩ := hSw; go_simp; rfl) | (obtain ⟨s1, s2⟩ := hSw; go_simp; rfl) | (have s1 := hSw; go_simp; rfl)
  go_simp
  refine wpAnyH_take (i := 1) (v := ?_) rfl (by kernel_rfl) (by kernel_rfl) (by kernel_rfl) (fun _ _ _ h => h) (Or.inl ⟨by rfl, ?_⟩) s0 ?_
  rotate_left
  · intro w hSw; first | (obtain ⟨s1, s2, s3, s4, s5, s6, s7, s8⟩ := hSw; go_simp; rfl) | (obtain ⟨s1, s2, s3, s4, s5, s6, s7⟩ := hSw; go_simp; rfl) | (obtain ⟨s1, s2, s3⟩ := hSw; go_simp; rfl) | (obtain ⟨s1, s2⟩ := hSw; go_simp; rfl) | (have s1 := hSw; go_simp; rfl)
  go_simp
  refine wpAnyH_take (i := 2) (v := ?_) rfl (by kernel_rfl) (by kernel_rfl) (by kernel_rfl) (fun _ _ _ h => h) (Or.inl ⟨by rfl, ?_⟩) s0 ?_
  rotate_left
  · intro w hSw; first | (obtain ⟨s1, s2, s3, s4, s5, s6, s7, s8⟩ := hSw; go_simp; rfl) | (obtain ⟨s1, s2, s3, s4, s5, s6, s7⟩ := hSw; go_simp; rfl) | (obtain ⟨s1, s2, s3⟩ := hSw; go_simp; rfl) | (obtain ⟨s1, s2⟩ := hSw; go_simp; rfl) | (have s1 := hSw; go_simp; rfl)
  go_simp
  refine wpAnyH_take (i := 3) (v := ?_) rfl (by kernel_rfl) (by kernel_rfl) (by kernel_rfl) (fun _ _ _ h => h) (Or.inl ⟨by rfl, ?_⟩) s0 ?_
  rotate_left
  · intro w hSw; first | (obtain ⟨s1, s2, s3, s4, s5, s6, s7, s8⟩ := hSw; go_simp; rfl) | (obtain ⟨s1, s2, s3, s4, s5, s6, s7⟩ := hSw; go_simp; rfl) | (obtain ⟨s1, s2, s3⟩ := hSw; go_simp; rfl) | (obtain ⟨s1, s2⟩ := hSw; go_simp; rfl) | (have s1 := hSw; go_simp; rfl)
  go_simp
  refine wpAnyH_take (i := 5) (v := ?_) rfl (by kernel_rfl) (by kernel_rfl) (by kernel_rfl) (fun _ _ _ h => h) (Or.inl ⟨by rfl, ?_⟩) s0 ?_
  rotate_left
  · intro w hSw; first | (obtain ⟨s1, s2, s3, s4, s5, s6, s7, s8⟩ := hSw; go_simp; rfl) | (obtain ⟨s1, s2, s3, s4, s5, s6, s7⟩ := hSw; go_simp; rfl) | (obtain ⟨s1, s2, s3⟩ := hSw; go_simp; rfl) | (obtain ⟨s1, s2⟩ := hSw; go_simp; rfl) | (have s1 := hSw; go_simp; rfl)
  go_simp
  refine wpAnyH_take (i := 6) (v := ?_) rfl (by kernel_rfl) (by kernel_rfl) (by kernel_rfl) (fun _ _ _ h => h) (Or.inl ⟨by rfl, ?_⟩) s0 ?_
  rotate_left
  · intro w hSw; first | (obtain ⟨s1, s2, s3, s4, s5, s6, s7, s8⟩ := hSw; go_simp; rfl) | (obtain ⟨s1, s2, s3, s4, s5, s6, s7⟩ := hSw; go_simp; rfl) | (obtain ⟨s1, s2, s3⟩ := hSw; go_simp; rfl) | (obtain ⟨s1, s2⟩ := hSw; go_simp; rfl) | (have s1 := hSw; go_simp; rfl)
  go_simp
  refine wpAnyH_take (i := 7) (v := ?_) rfl (by kernel_rfl) (by kernel_rfl) (by kernel_rfl) (fun _ _ _ h => h) (Or.inl ⟨by rfl, ?_⟩) s0 ?_
  rotate_left
  · intro w hSw; first | (obtain ⟨s1, s2, s3, s4, s5, s6, s7, s8⟩ := hSw; go_simp; rfl) | (obtain ⟨s1, s2, s3, s4, s5, s6, s7⟩ := hSw; go_simp; rfl) | (obtain ⟨s1, s2, s3⟩ := hSw; go_simp; rfl) | (obtain ⟨s1, s2⟩ := hSw; go_simp; rfl) | (have s1 := hSw; go_simp; rfl)
  go_simp
  refine wpAnyH_take (i := 8) (v := ?_) rfl (by kernel_rfl) (by kernel_rfl) (by kernel_rfl) (fun _ _ _ h => h) (Or.inl ⟨by rfl, ?_⟩) s0 ?_
  rotate_left
  · intro w hSw; first | (obtain ⟨s1, s2, s3, s4, s5, s6, s7, s8⟩ := hSw; go_simp; rfl) | (obtain ⟨s1, s2, s3, s4, s5, s6, s7⟩ := hSw; go_simp; rfl) | (obtain ⟨s1, s2, s3⟩ := hSw; go_simp; rfl) | (obtain ⟨s1, s2⟩ := hSw; go_simp; rfl) | (have s1 := hSw; go_simp; rfl)
  go_simp
  refine heldOne (i := 4) (by kernel_rfl) rfl (by rfl) (fun K hK => ?_)
  go_simp
  refine HPC.out.mono ?_
  rintro e w3 ⟨x, rfl, hx, hr3, f3⟩
  have s1 : w3.cell? ⟨xb, 3, none⟩ = some (.int .u64 v) := (f3.cell hxl0 (fun e => by have := e.2; omega) _).trans s0
  have hxl1 := Nat.lt_of_lt_of_le hxl0 f3.size
  have HD3 := Lib.hid (HD.out.midD f3)
  have HR3 := Lib.hid hr3
  have F3 := Lib.hid f3
  have HS3 := Lib.hid hx
  refine hK.out _ _ s1 ?_
  clear hK K hx hr3 f3 s0 HPC
  refine heldOne (i := 9) (by kernel_rfl) rfl (by rfl) (fun K hK => ?_)
  go_simp
  refine (HDC.out w3 HD3.out).mono ?_
  rintro e w4 ⟨f, rfl, hfl, hd4, f4⟩
  have s2 : w4.cell? ⟨xb, 3, none⟩ = some (.int .u64 v) := (f4.cell hxl1 (fun e => by have := e.2; omega) _).trans s1
  have hx4 := Says.keepIf f4 HS3.out
  have G4 := Lib.hid (HD.out.both HR3.out F3.out hd4 f4 HPL.out HTK.out)
  have HSM := Lib.hid (same_says x f tabL _ w4 (HG.out.keep G4.out.n id) hx4 hfl)
  have hxl2 := Nat.lt_of_lt_of_le hxl1 f4.size
  refine hK.out _ _ s2 ?_
  clear hK K hfl hd4 f4 hx4 HD3 HR3 F3 HS3 s1 HDC
  refine heldOne (i := 10) (by kernel_rfl) rfl (by rfl) (fun K hK => ?_)
  go_simp
  refine HSM.out.mono ?_
  rintro e w5 ⟨rfl, hn5⟩
  have G5 := Lib.hid (G4.out.new hn5)
  have s3 : w5.cell? ⟨xb, 3, none⟩ = some (.int .u64 v) := (hn5.cell hxl2 id _).trans s2
  refine hK.out _ _ s3 ?_
  clear hK K hn5 s2
  refine wpAnyH_take (i := 11) (v := ?_) rfl (by kernel_rfl) (by kernel_rfl) (by kernel_rfl) (fun _ _ _ h => h) (Or.inl ⟨by rfl, ?_⟩) s3 ?_
  rotate_left
  · intro w hSw; first | (obtain ⟨s1, s2, s3, s4, s5, s6, s7, s8⟩ := hSw; go_simp; rfl) | (obtain ⟨s1, s2, s3, s4, s5, s6, s7⟩ := hSw; go_simp; rfl) | (obtain ⟨s1, s2, s3⟩ := hSw; go_simp; rfl) | (obtain ⟨s1, s2⟩ := hSw; go_simp; rfl) | (have s1 := hSw; go_simp; rfl)
  go_simp
  refine wpAnyH_done (by kernel_rfl) ?_ _
  go_wp2
  go_ret
  exact ⟨rfl, _, G5.out⟩

set_option maxRecDepth 100000 in
set_option maxHeartbeats 4000000 in
theorem do_end6 (w0 : World) (b rb b2 lb : Nat) (l : List TR) (j : Nat) (d who S : Int) (u v : Nat) (w : World) (hg : Laid w0) (h : StT w0 w b rb b2 lb l j) (hj : j ≤ 150) (hu : u < 18446744073709551616) (hv : v < 18446744073709551616) (hw1 : -9223372036854775808 ≤ who) (hw2 : who ≤ 9223372036854775807) (hd1 : -9223372036854775808 ≤ d) (hd2 : d ≤ 9223372036854775807) (hq : d % 10 = 6) :
    Calls Tryd.prog 26 #[.pointer (some ⟨b, 0, none⟩), .pointer (some ⟨b2, 0, none⟩), .agg #[.int .i64 d, .int .i64 who, .int .u64 u, .int .u64 v, .int .i64 S]] w fun e w' => e = .returned (.bool true) ∧ ∃ l', StT w0 w' b rb b2 lb l' (j + 1) := by
  have H := Lib.hid h
  have HG := Lib.hid hg
  have hwi := fun w => within_any d 10 w (by omega) (by omega) hd1 hd2
  rw [hq] at hwi
  have HWI := Lib.hid hwi
  clear h hg hwi
  go_enter Tryd.func26, Tryd.ntmps26
  go_wp2_with fail
  obtain ⟨W0, hW0⟩ : ∃ W0, w.alloc (.cells #[.int .i64 d, .int .i64 who, .int .u64 u, .int .u64 v, .int .i64 S] 42) = W0 := ⟨_, rfl⟩
  have hx0 : Arr W0 w.heap.size [.int .i64 d, .int .i64 who, .int .u64 u, .int .u64 v, .int .i64 S] := by rw [← hW0]; exact Arr.new _ _ _
  have hn0 : New w W0 := by rw [← hW0]; exact (Fr.refl _ _).alloc _
  rw [hW0]
  have hax : rb < w.heap.size ∧ lb < w.heap.size := ⟨H.out.p.rows.lt, H.out.d.rows.lt⟩
  obtain ⟨xb, hxb⟩ : ∃ xb, w.heap.size = xb := ⟨_, rfl⟩
  rw [hxb] at hx0 hax ⊢
  have H0 := Lib.hid (H.out.new hn0)
  clear hW0 hxb H hn0
  refine (id_any b2 lb l d who S u v W0 H0.out.d H0.out.pl hu hw1 hw2).mono ?_
  rintro e w1 ⟨h, rfl, hh, hn1⟩
  have H1 := Lib.hid (H0.out.new hn1)
  have HX := Lib.hid (hx0.keep hn1 id)
  have x0 : w1.cell? ⟨xb, 0, none⟩ = some (.int .i64 d) := HX.out.cell 0 _ rfl
  have x3 : w1.cell? ⟨xb, 3, none⟩ = some (.int .u64 v) := HX.out.cell 3 _ rfl
  have x4 : w1.cell? ⟨xb, 4, none⟩ = some (.int .i64 S) := HX.out.cell 4 _ rfl
  have hxl := HX.out.lt
  clear H0 hx0 hn1
  go_wp2_with (go_at_call 15; refine (HWI.out _).mono ?_; rintro e w' ⟨rfl, rfl⟩)
  refine heldStart (fun W1 => W1.cell? ⟨xb, 3, none⟩ = some (.int .u64 v)) (by kernel_rfl) ?_
  have s0 : w1.drew.cell? ⟨xb, 3, none⟩ = some (.int .u64 v) := x3
  have HD := Lib.hid (H1.out.new ((Fr.refl _ _).drew))
  have hxl0 : xb < w1.drew.heap.size := hxl
  clear x0 x3 x4 hxl HX H1
  generalize w1.drew = V0 at s0 HD hxl0 ⊢
  have hpc := pend_any b rb l h v V0 HD.out.p hh
  have hdc := fun w2 (h2 : DRep w2 b2 lb l) => dend_any b2 lb l h v w2 h2 HD.out.pl hh
  have hpl2 : Placed (onL l h (endR v)) := Placed.on HD.out.pl h (mild_end v)
  have htk2 : Times (onL l h (endR v)) (j + 1) := (Times.on HD.out.tk h (mild_end v)).up
  unfold EndP at hpc
  unfold EndD at hdc
  generalize onE l h endE = oe at hpc hdc
  generalize onL l h (endR v) = l2 at hpc hdc hpl2 htk2
  have HPC := Lib.hid hpc
  have HDC := Lib.hid hdc
  have HPL := Lib.hid hpl2
  have HTK := Lib.hid htk2
  clear hpc hdc hpl2 htk2
  refine wpAnyH_take (i := 0) (v := ?_) rfl (by kernel_rfl) (by kernel_rfl) (by kernel_rfl) (fun _ _ _ h => h) (Or.inl ⟨by rfl, ?_⟩) s0 ?_
  rotate_left
  · intro w hSw; first | (obtain ⟨s1, s2, s3, s4, s5, s6, s7, s8⟩ := hSw; go_simp; rfl) | (obtain ⟨s1, s2, s3, s4, s5, s6, s7⟩ := hSw; go_simp; rfl) | (obtain ⟨s1, s2, s3⟩ := hSw; go_simp; rfl) | (obtain ⟨s1, s2⟩ := hSw; go_simp; rfl) | (have s1 := hSw; go_simp; rfl)
  go_simp
  refine wpAnyH_take (i := 1) (v := ?_) rfl (by kernel_rfl) (by kernel_rfl) (by kernel_rfl) (fun _ _ _ h => h) (Or.inl ⟨by rfl, ?_⟩) s0 ?_
  rotate_left
  · intro w hSw; first | (obtain ⟨s1, s2, s3, s4, s5, s6, s7, s8⟩ := hSw; go_simp; rfl) | (obtain ⟨s1, s2, s3, s4, s5, s6, s7⟩ := hSw; go_simp; rfl) | (obtain ⟨s1, s2, s3⟩ := hSw; go_simp; rfl) | (obtain ⟨s1, s2⟩ := hSw; go_simp; rfl) | (have s1 := hSw; go_simp; rfl)
  go_simp
  refine wpAnyH_take (i := 2) (v := ?_) rfl (by kernel_rfl) (by kernel_rfl) (by kernel_rfl) (fun _ _ _ h => h) (Or.inl ⟨by rfl, ?_⟩) s0 ?_
  rotate_left
  · intro w hSw; first | (obtain ⟨s1, s2, s3, s4, s5, s6, s7, s8⟩ := hSw; go_simp; rfl) | (obtain ⟨s1, s2, s3, s4, s5, s6, s7⟩ := hSw; go_simp; rfl) | (obtain ⟨s1, s2, s3⟩ := hSw; go_simp; rfl) | (obtain ⟨s1, s2⟩ := hSw; go_simp; rfl) | (have s1 := hSw; go_simp; rfl)
  go_simp
  refine wpAnyH_take (i := 3) (v := ?_) rfl (by kernel_rfl) (by kernel_rfl) (by kernel_rfl) (fun _ _ _ h => h) (Or.inl ⟨by rfl, ?_⟩) s0 ?_
  rotate_left
  · intro w hSw; first | (obtain ⟨s1, s2, s3, s4, s5, s6, s7, s8⟩ := hSw; go_simp; rfl) | (obtain ⟨s1, s2, s3, s4, s5, s6, s7⟩ := hSw; go_simp; rfl) | (obtain ⟨s1, s2, s3⟩ := hSw; go_simp; rfl) | (obtain ⟨s1, s2⟩ := hSw; go_simp; rfl) | (have s1 := hSw; go_simp; rfl)
  go_simp
  refine wpAnyH_take (i := 5) (v := ?_) rfl (by kernel_rfl) (by kernel_rfl) (by kernel_rfl) (fun _ _ _ h => h) (Or.inl ⟨by rfl, ?_⟩) s0 ?_
  rotate_left
  · intro w hSw; first | (obtain ⟨s1, s2, s3, s4, s5, s6, s7, s8⟩ := hSw; go_simp; rfl) | (obtain ⟨s1, s2, s3, s4, s5, s6, s7⟩ := hSw; go_simp; rfl) | (obtain ⟨s1, s2, s3⟩ := hSw; go_simp; rfl) | (obtain ⟨s1, s2⟩ := hSw; go_simp; rfl) | (have s1 := hSw; go_simp; rfl)
  go_simp
  refine wpAnyH_take (i := 6) (v := ?_) rfl (by kernel_rfl) (by kernel_rfl) (by kernel_rfl) (fun _ _ _ h => h) (Or.inl ⟨by rfl, ?_⟩) s0 ?_
  rotate_left
  · intro w hSw; first | (obtain ⟨s1, s2, s3, s4, s5, s6, s7, s8⟩ := hSw; go_simp; rfl) | (obtain ⟨s1, s2, s3, s4, s5, s6, s7⟩ := hSw; go_simp; rfl) | (obtain ⟨s1, s2, s3⟩ := hSw; go_simp; rfl) | (obtain ⟨s1, s2⟩ := hSw; go_simp; rfl) | (have s1 := hSw; go_simp; rfl)
  go_simp
  refine wpAnyH_take (i := 7) (v := ?_) rfl (by kernel_rfl) (by kernel_rfl) (by kernel_rfl) (fun _ _ _ h => h) (Or.inl ⟨by rfl, ?_⟩) s0 ?_
  rotate_left
  · intro w hSw; first | (obtain ⟨s1, s2, s3, s4, s5, s6, s7, s8⟩ := hSw; go_simp; rfl) | (obtain ⟨s1, s2, s3, s4, s5, s6, s7⟩ := hSw; go_simp; rfl) | (obtain ⟨s1, s2, s3⟩ := hSw; go_simp; rfl) | (obtain ⟨s1, s2⟩ := hSw; go_simp; rfl) | (have s1 := hSw; go_simp; rfl)
  go_simp
  refine wpAnyH_take (i := 8) (v := ?_) rfl (by kernel_rfl) (by kernel_rfl) (by kernel_rfl) (fun _ _ _ h => h) (Or.inl ⟨by rfl, ?_⟩) s0 ?_
  rotate_left
  · intro w hSw; first | (obtain ⟨s1, s2, s3, s4, s5, s6, s7, s8⟩ := hSw; go_simp; rfl) | (obtain ⟨s1, s2, s3, s4, s5, s6, s7⟩ := hSw; go_simp; rfl) | (obtain ⟨s1, s2, s3⟩ := hSw; go_simp; rfl) | (obtain ⟨s1, s2⟩ := hSw; go_simp; rfl) | (have s1 := hSw; go_simp; rfl)
  go_simp
  refine heldOne (i := 4) (by kernel_rfl) rfl (by rfl) (fun K hK => ?_)
  go_simp
  refine HPC.out.mono ?_
  rintro e w3 ⟨x, rfl, hx, hr3, f3⟩
  have s1 : w3.cell? ⟨xb, 3, none⟩ = some (.int .u64 v) := (f3.cell hxl0 (fun e => by have := e.2; omega) _).trans s0
  have hxl1 := Nat.lt_of_lt_of_le hxl0 f3.size
  have HD3 := Lib.hid (HD.out.midD f3)
  have HR3 := Lib.hid hr3
  have F3 := Lib.hid f3
  have HS3 := Lib.hid hx
  refine hK.out _ _ s1 ?_
  clear hK K hx hr3 f3 s0 HPC
  refine heldOne (i := 9) (by kernel_rfl) rfl (by rfl) (fun K hK => ?_)
  go_simp
  refine (HDC.out w3 HD3.out).mono ?_
  rintro e w4 ⟨f, rfl, hfl, hd4, f4⟩
  have s2 : w4.cell? ⟨xb, 3, none⟩ = some (.int .u64 v) := (f4.cell hxl1 (fun e => by have := e.2; omega) _).trans s1
  have hx4 := Says.keepIf f4 HS3.out
  have G4 := Lib.hid (HD.out.both HR3.out F3.out hd4 f4 HPL.out HTK.out)
  have HSM := Lib.hid (same_says x f tabL _ w4 (HG.out.keep G4.out.n id) hx4 hfl)
  have hxl2 := Nat.lt_of_lt_of_le hxl1 f4.size
  refine hK.out _ _ s2 ?_
  clear hK K hfl hd4 f4 hx4 HD3 HR3 F3 HS3 s1 HDC
  refine heldOne (i := 10) (by kernel_rfl) rfl (by rfl) (fun K hK => ?_)
  go_simp
  refine HSM.out.mono ?_
  rintro e w5 ⟨rfl, hn5⟩
  have G5 := Lib.hid (G4.out.new hn5)
  have s3 : w5.cell? ⟨xb, 3, none⟩ = some (.int .u64 v) := (hn5.cell hxl2 id _).trans s2
  refine hK.out _ _ s3 ?_
  clear hK K hn5 s2
  refine wpAnyH_take (i := 11) (v := ?_) rfl (by kernel_rfl) (by kernel_rfl) (by kernel_rfl) (fun _ _ _ h => h) (Or.inl ⟨by rfl, ?_⟩) s3 ?_
  rotate_left
  · intro w hSw; first | (obtain ⟨s1, s2, s3, s4, s5, s6, s7, s8⟩ := hSw; go_simp; rfl) | (obtain ⟨s1, s2, s3, s4, s5, s6, s7⟩ := hSw; go_simp; rfl) | (obtain ⟨s1, s2, s3⟩ := hSw; go_simp; rfl) | (obtain ⟨s1, s2⟩ := hSw; go_simp; rfl) | (have s1 := hSw; go_simp; rfl)
  go_simp
  refine wpAnyH_done (by kernel_rfl) ?_ _
  go_wp2
  go_ret
  exact ⟨rfl, _, G5.out⟩

set_option maxRecDepth 100000 in
set_option maxHeartbeats 4000000 in
theorem do_end7 (w0 : World) (b rb b2 lb : Nat) (l : List TR) (j : Nat) (d who S : Int) (u v : Nat) (w : World) (hg : Laid w0) (h : StT w0 w b rb b2 lb l j) (hj : j ≤ 150) (hu : u < 18446744073709551616) (hv : v < 18446744073709551616) (hw1 : -9223372036854775808 ≤ who) (hw2 : who ≤ 9223372036854775807) (hd1 : -9223372036854775808 ≤ d) (hd2 : d ≤ 9223372036854775807) (hq : d % 10 = 7) :
    Calls Tryd.prog 26 #[.pointer (some ⟨b, 0, none⟩), .pointer (some ⟨b2, 0, none⟩), .agg #[.int .i64 d, .int .i64 who, .int .u64 u, .int .u64 v, .int .i64 S]] w fun e w' => e = .returned (.bool true) ∧ ∃ l', StT w0 w' b rb b2 lb l' (j + 1) := by
  have H := Lib.hid h
  have HG := Lib.hid hg
  have hwi := fun w => within_any d 10 w (by omega) (by omega) hd1 hd2
  rw [hq] at hwi
  have HWI := Lib.hid hwi
  clear h hg hwi
  go_enter Tryd.func26, Tryd.ntmps26
  go_wp2_with fail
  obtain ⟨W0, hW0⟩ : ∃ W0, w.alloc (.cells #[.int .i64 d, .int .i64 who, .int .u64 u, .int .u64 v, .int .i64 S] 42) = W0 := ⟨_, rfl⟩
  have hx0 : Arr W0 w.heap.size [.int .i64 d, .int .i64 who, .int .u64 u, .int .u64 v, .int .i64 S] := by rw [← hW0]; exact Arr.new _ _ _
  have hn0 : New w W0 := by rw [← hW0]; exact (Fr.refl _ _).alloc _
  rw [hW0]
  have hax : rb < w.heap.size ∧ lb < w.heap.size := ⟨H.out.p.rows.lt, H.out.d.rows.lt⟩
  obtain ⟨xb, hxb⟩ : ∃ xb, w.heap.size = xb := ⟨_, rfl⟩
  rw [hxb] at hx0 hax ⊢
  have H0 := Lib.hid (H.out.new hn0)
  clear hW0 hxb H hn0
  refine (id_any b2 lb l d who S u v W0 H0.out.d H0.out.pl hu hw1 hw2).mono ?_
  rintro e w1 ⟨h, rfl, hh, hn1⟩
  have H1 := Lib.hid (H0.out.new hn1)
  have HX := Lib.hid (hx0.keep hn1 id)
  have x0 : w1.cell? ⟨xb, 0, none⟩ = some (.int .i64 d) := HX.out.cell 0 _ rfl
  have x3 : w1.cell? ⟨xb, 3, none⟩ = some (.int .u64 v) := HX.out.cell 3 _ rfl
  have x4 : w1.cell? ⟨xb, 4, none⟩ = some (.int .i64 S) := HX.out.cell 4 _ rfl
  have hxl := HX.out.lt
  clear H0 hx0 hn1
  go_wp2_with (go_at_call 15; refine (HWI.out _).mono ?_; rintro e w' ⟨rfl, rfl⟩)
  refine heldStart (fun W1 => W1.cell? ⟨xb, 3, none⟩ = some (.int .u64 v)) (by kernel_rfl) ?_
  have s0 : w1.drew.cell? ⟨xb, 3, none⟩ = some (.int .u64 v) := x3
  have HD := Lib.hid (H1.out.new ((Fr.refl _ _).drew))
  have hxl0 : xb < w1.drew.heap.size := hxl
  clear x0 x3 x4 hxl HX H1
  generalize w1.drew = V0 at s0 HD hxl0 ⊢
  have hpc := pend_any b rb l h v V0 HD.out.p hh
  have hdc := fun w2 (h2 : DRep w2 b2 lb l) => dend_any b2 lb l h v w2 h2 HD.out.pl hh
  have hpl2 : Placed (onL l h (endR v)) := Placed.on HD.out.pl h (mild_end v)
  have htk2 : Times (onL l h (endR v)) (j + 1) := (Times.on HD.out.tk h (mild_end v)).up
  unfold EndP at hpc
  unfold EndD at hdc
  generalize onE l h endE = oe at hpc hdc
  generalize onL l h (endR v) = l2 at hpc hdc hpl2 htk2
  have HPC := Lib.hid hpc
  have HDC := Lib.hid hdc
  have HPL := Lib.hid hpl2
  have HTK := Lib.hid htk2
  clear hpc hdc hpl2 htk2
  refine wpAnyH_take (i := 0) (v := ?_) rfl (by kernel_rfl) (by kernel_rfl) (by kernel_rfl) (fun _ _ _ h => h) (Or.inl ⟨by rfl, ?_⟩) s0 ?_
  rotate_left
  · intro w hSw; first | (obtain ⟨s1, s2, s3, s4, s5, s6, s7, s8⟩ := hSw; go_simp; rfl) | (obtain ⟨s1, s2, s3, s4, s5, s6, s7⟩ := hSw; go_simp; rfl) | (obtain ⟨s1, s2, s3⟩ := hSw; go_simp; rfl) | (obtain ⟨s1, s2⟩ := hSw; go_simp; rfl) | (have s1 := hSw; go_simp; rfl)
  go_simp
  refine wpAnyH_take (i := 1) (v := ?_) rfl (by kernel_rfl) (by kernel_rfl) (by kernel_rfl) (fun _ _ _ h => h) (Or.inl ⟨by rfl, ?_⟩) s0 ?_
  rotate_left
  · intro w hSw; first | (obtain ⟨s1, s2, s3, s4, s5, s6, s7, s8⟩ := hSw; go_simp; rfl) | (obtain ⟨s1, s2, s3, s4, s5, s6, s7⟩ := hSw; go_simp; rfl) | (obtain ⟨s1, s2, s3⟩ := hSw; go_simp; rfl) | (obtain ⟨s1, s2⟩ := hSw; go_simp; rfl) | (have s1 := hSw; go_simp; rfl)
  go_simp
  refine wpAnyH_take (i := 2) (v := ?_) rfl (by kernel_rfl) (by kernel_rfl) (by kernel_rfl) (fun _ _ _ h => h) (Or.inl ⟨by rfl, ?_⟩) s0 ?_
  rotate_left
  · intro w hSw; first | (obtain ⟨s1, s2, s3, s4, s5, s6, s7, s8⟩ := hSw; go_simp; rfl) | (obtain ⟨s1, s2, s3, s4, s5, s6, s7⟩ := hSw; go_simp; rfl) | (obtain ⟨s1, s2, s3⟩ := hSw; go_simp; rfl) | (obtain ⟨s1, s2⟩ := hSw; go_simp; rfl) | (have s1 := hSw; go_simp; rfl)
  go_simp
  refine wpAnyH_take (i := 3) (v := ?_) rfl (by kernel_rfl) (by kernel_rfl) (by kernel_rfl) (fun _ _ _ h => h) (Or.inl ⟨by rfl, ?_⟩) s0 ?_
  rotate_left
  · intro w hSw; first | (obtain ⟨s1, s2, s3, s4, s5, s6, s7, s8⟩ := hSw; go_simp; rfl) | (obtain ⟨s1, s2, s3, s4, s5, s6, s7⟩ := hSw; go_simp; rfl) | (obtain ⟨s1, s2, s3⟩ := hSw; go_simp; rfl) | (obtain ⟨s1, s2⟩ := hSw; go_simp; rfl) | (have s1 := hSw; go_simp; rfl)
  go_simp
  refine wpAnyH_take (i := 5) (v := ?_) rfl (by kernel_rfl) (by kernel_rfl) (by kernel_rfl) (fun _ _ _ h => h) (Or.inl ⟨by rfl, ?_⟩) s0 ?_
  rotate_left
  · intro w hSw; first | (obtain ⟨s1, s2, s3, s4, s5, s6, s7, s8⟩ := hSw; go_simp; rfl) | (obtain ⟨s1, s2, s3, s4, s5, s6, s7⟩ := hSw; go_simp; rfl) | (obtain ⟨s1, s2, s3⟩ := hSw; go_simp; rfl) | (obtain ⟨s1, s2⟩ := hSw; go_simp; rfl) | (have s1 := hSw; go_simp; rfl)
  go_simp
  refine wpAnyH_take (i := 6) (v := ?_) rfl (by kernel_rfl) (by kernel_rfl) (by kernel_rfl) (fun _ _ _ h => h) (Or.inl ⟨by rfl, ?_⟩) s0 ?_
  rotate_left
  · intro w hSw; first | (obtain ⟨s1, s2, s3, s4, s5, s6, s7, s8⟩ := hSw; go_simp; rfl) | (obtain ⟨s1, s2, s3, s4, s5, s6, s7⟩ := hSw; go_simp; rfl) | (obtain ⟨s1, s2, s3⟩ := hSw; go_simp; rfl) | (obtain ⟨s1, s2⟩ := hSw; go_simp; rfl) | (have s1 := hSw; go_simp; rfl)
  go_simp
  refine wpAnyH_take (i := 7) (v := ?_) rfl (by kernel_rfl) (by kernel_rfl) (by kernel_rfl) (fun _ _ _ h => h) (Or.inl ⟨by rfl, ?_⟩) s0 ?_
  rotate_left
  · intro w hSw; first | (obtain ⟨s1, s2, s3, s4, s5, s6, s7, s8⟩ := hSw; go_simp; rfl) | (obtain ⟨s1, s2, s3, s4, s5, s6, s7⟩ := hSw; go_simp; rfl) | (obtain ⟨s1, s2, s3⟩ := hSw; go_simp; rfl) | (obtain ⟨s1, s2⟩ := hSw; go_simp; rfl) | (have s1 := hSw; go_simp; rfl)
  go_simp
  refine wpAnyH_take (i := 8) (v := ?_) rfl (by kernel_rfl) (by kernel_rfl) (by kernel_rfl) (fun _ _ _ h => h) (Or.inl ⟨by rfl, ?_⟩) s0 ?_
  rotate_left
  · intro w hSw; first | (obtain ⟨s1, s2, s3, s4, s5, s6, s7, s8⟩ := hSw; go_simp; rfl) | (obtain ⟨s1, s2, s3, s4, s5, s6, s7⟩ := hSw; go_simp; rfl) | (obtain ⟨s1, s2, s3⟩ := hSw; go_simp; rfl) | (obtain ⟨s1, s2⟩ := hSw; go_simp; rfl) | (have s1 := hSw; go_simp; rfl)
  go_simp
  refine heldOne (i := 4) (by kernel_rfl) rfl (by rfl) (fun K hK => ?_)
  go_simp
  refine HPC.out.mono ?_
  rintro e w3 ⟨x, rfl, hx, hr3, f3⟩
  have s1 : w3.cell? ⟨xb, 3, none⟩ = some (.int .u64 v) := (f3.cell hxl0 (fun e => by have := e.2; omega) _).trans s0
  have hxl1 := Nat.lt_of_lt_of_le hxl0 f3.size
  have HD3 := Lib.hid (HD.out.midD f3)
  have HR3 := Lib.hid hr3
  have F3 := Lib.hid f3
  have HS3 := Lib.hid hx
  refine hK.out _ _ s1 ?_
  clear hK K hx hr3 f3 s0 HPC
  refine heldOne (i := 9) (by kernel_rfl) rfl (by rfl) (fun K hK => ?_)
  go_simp
  refine (HDC.out w3 HD3.out).mono ?_
  rintro e w4 ⟨f, rfl, hfl, hd4, f4⟩
  have s2 : w4.cell? ⟨xb, 3, none⟩ = some (.int .u64 v) := (f4.cell hxl1 (fun e => by have := e.2; omega) _).trans s1
  have hx4 := Says.keepIf f4 HS3.out
  have G4 := Lib.hid (HD.out.both HR3.out F3.out hd4 f4 HPL.out HTK.out)
  have HSM := Lib.hid (same_says x f tabL _ w4 (HG.out.keep G4.out.n id) hx4 hfl)
  have hxl2 := Nat.lt_of_lt_of_le hxl1 f4.size
  refine hK.out _ _ s2 ?_
  clear hK K hfl hd4 f4 hx4 HD3 HR3 F3 HS3 s1 HDC
  refine heldOne (i := 10) (by kernel_rfl) rfl (by rfl) (fun K hK => ?_)
  go_simp
  refine HSM.out.mono ?_
  rintro e w5 ⟨rfl, hn5⟩
  have G5 := Lib.hid (G4.out.new hn5)
  have s3 : w5.cell? ⟨xb, 3, none⟩ = some (.int .u64 v) := (hn5.cell hxl2 id _).trans s2
  refine hK.out _ _ s3 ?_
  clear hK K hn5 s2
  refine wpAnyH_take (i := 11) (v := ?_) rfl (by kernel_rfl) (by kernel_rfl) (by kernel_rfl) (fun _ _ _ h => h) (Or.inl ⟨by rfl, ?_⟩) s3 ?_
  rotate_left
  · intro w hSw; first | (obtain ⟨s1, s2, s3, s4, s5, s6, s7, s8⟩ := hSw; go_simp; rfl) | (obtain ⟨s1, s2, s3, s4, s5, s6, s7⟩ := hSw; go_simp; rfl) | (obtain ⟨s1, s2, s3⟩ := hSw; go_simp; rfl) | (obtain ⟨s1, s2⟩ := hSw; go_simp; rfl) | (have s1 := hSw; go_simp; rfl)
  go_simp
  refine wpAnyH_done (by kernel_rfl) ?_ _
  go_wp2
  go_ret
  exact ⟨rfl, _, G5.out⟩

set_option maxRecDepth 100000 in
set_option maxHeartbeats 4000000 in
theorem do_loose (w0 : World) (b rb b2 lb : Nat) (l : List TR) (j : Nat) (d who S : Int) (u v : Nat) (w : World) (hg : Laid w0) (h : StT w0 w b rb b2 lb l j) (hj : j ≤ 150) (hu : u < 18446744073709551616) (hv : v < 18446744073709551616) (hw1 : -9223372036854775808 ≤ who) (hw2 : who ≤ 9223372036854775807) (hd1 : -9223372036854775808 ≤ d) (hd2 : d ≤ 9223372036854775807) (hq : d % 10 = 5) :
    Calls Tryd.prog 26 #[.pointer (some ⟨b, 0, none⟩), .pointer (some ⟨b2, 0, none⟩), .agg #[.int .i64 d, .int .i64 who, .int .u64 u, .int .u64 v, .int .i64 S]] w fun e w' => e = .returned (.bool true) ∧ ∃ l', StT w0 w' b rb b2 lb l' (j + 1) := by
  have H := Lib.hid h
  have HG := Lib.hid hg
  have hwi := fun w => within_any d 10 w (by omega) (by omega) hd1 hd2
  rw [hq] at hwi
  have HWI := Lib.hid hwi
  clear h hg hwi
  go_enter Tryd.func26, Tryd.ntmps26
  go_wp2_with fail
  obtain ⟨W0, hW0⟩ : ∃ W0, w.alloc (.cells #[.int .i64 d, .int .i64 who, .int .u64 u, .int .u64 v, .int .i64 S] 42) = W0 := ⟨_, rfl⟩
  have hx0 : Arr W0 w.heap.size [.int .i64 d, .int .i64 who, .int .u64 u, .int .u64 v, .int .i64 S] := by rw [← hW0]; exact Arr.new _ _ _
  have hn0 : New w W0 := by rw [← hW0]; exact (Fr.refl _ _).alloc _
  rw [hW0]
  have hax : rb < w.heap.size ∧ lb < w.heap.size := ⟨H.out.p.rows.lt, H.out.d.rows.lt⟩
  obtain ⟨xb, hxb⟩ : ∃ xb, w.heap.size = xb := ⟨_, rfl⟩
  rw [hxb] at hx0 hax ⊢
  have H0 := Lib.hid (H.out.new hn0)
  clear hW0 hxb H hn0
  refine (id_any b2 lb l d who S u v W0 H0.out.d H0.out.pl hu hw1 hw2).mono ?_
  rintro e w1 ⟨h, rfl, hh, hn1⟩
  have H1 := Lib.hid (H0.out.new hn1)
  have HX := Lib.hid (hx0.keep hn1 id)
  have x0 : w1.cell? ⟨xb, 0, none⟩ = some (.int .i64 d) := HX.out.cell 0 _ rfl
  have x3 : w1.cell? ⟨xb, 3, none⟩ = some (.int .u64 v) := HX.out.cell 3 _ rfl
  have x4 : w1.cell? ⟨xb, 4, none⟩ = some (.int .i64 S) := HX.out.cell 4 _ rfl
  have hxl := HX.out.lt
  clear H0 hx0 hn1
  go_wp2_with (go_at_call 15; refine (HWI.out _).mono ?_; rintro e w' ⟨rfl, rfl⟩)
  have hdc := dloose_any b2 lb l h w1 H1.out.d H1.out.pl hh
  have hpc := fun w2 (h2 : PRep w2 b rb l) => ploose_any b rb l h w2 h2 hh
  have hpl2 : Placed (onL l h looseR) := Placed.on H1.out.pl h mild_loose
  have htk2 : Times (onL l h looseR) (j + 1) := (Times.on H1.out.tk h mild_loose).up
  unfold EndP at hpc
  unfold EndD at hdc
  generalize onE l h looseE = oe at hpc hdc
  generalize onL l h looseR = l2 at hpc hdc hpl2 htk2
  have HPC := Lib.hid hpc
  have HDC := Lib.hid hdc
  have HPL := Lib.hid hpl2
  have HTK := Lib.hid htk2
  clear hpc hdc hpl2 htk2
  refine HDC.out.mono ?_
  rintro e w3 ⟨rx, ry, f, rfl, hfl, hd3, f3⟩
  have HP3 := Lib.hid (H1.out.midP f3)
  have HD3 := Lib.hid hd3
  have F3 := Lib.hid f3
  have HS3 := Lib.hid hfl
  clear hfl hd3 f3 HDC x0 x3 x4
  go_wp2_with fail
  refine (HPC.out w3 HP3.out).mono ?_
  rintro e w4 ⟨x, rfl, hx, hr4, f4⟩
  have hf4 := SaysF.keepIf f4 HS3.out
  have G4 := Lib.hid (H1.out.both' HD3.out F3.out hr4 f4 HPL.out HTK.out)
  have HSM := Lib.hid (same_says x f tabL _ w4 (HG.out.keep G4.out.n id) hx hf4)
  clear hx hr4 f4 hf4 HD3 HP3 F3 HS3 HPC
  go_wp2_with fail
  refine HSM.out.mono ?_
  rintro e w5 ⟨rfl, hn5⟩
  have G5 := Lib.hid (G4.out.new hn5)
  clear hn5
  go_wp2
  go_ret
  exact ⟨rfl, _, G5.out⟩

set_option maxRecDepth 100000 in
set_option maxHeartbeats 4000000 in
theorem do_leave (w0 : World) (b rb b2 lb : Nat) (l : List TR) (j : Nat) (d who S : Int) (u v : Nat) (w : World) (hg : Laid w0) (h : StT w0 w b rb b2 lb l j) (hj : j ≤ 150) (hu : u < 18446744073709551616) (hv : v < 18446744073709551616) (hw1 : -9223372036854775808 ≤ who) (hw2 : who ≤ 9223372036854775807) (hd1 : -9223372036854775808 ≤ d) (hd2 : d ≤ 9223372036854775807) (hq : d % 10 = 8) :
    Calls Tryd.prog 26 #[.pointer (some ⟨b, 0, none⟩), .pointer (some ⟨b2, 0, none⟩), .agg #[.int .i64 d, .int .i64 who, .int .u64 u, .int .u64 v, .int .i64 S]] w fun e w' => e = .returned (.bool true) ∧ ∃ l', StT w0 w' b rb b2 lb l' (j + 1) := by
  have H := Lib.hid h
  have HG := Lib.hid hg
  have hwi := fun w => within_any d 10 w (by omega) (by omega) hd1 hd2
  rw [hq] at hwi
  have HWI := Lib.hid hwi
  clear h hg hwi
  go_enter Tryd.func26, Tryd.ntmps26
  go_wp2_with fail
  obtain ⟨W0, hW0⟩ : ∃ W0, w.alloc (.cells #[.int .i64 d, .int .i64 who, .int .u64 u, .int .u64 v, .int .i64 S] 42) = W0 := ⟨_, rfl⟩
  have hx0 : Arr W0 w.heap.size [.int .i64 d, .int .i64 who, .int .u64 u, .int .u64 v, .int .i64 S] := by rw [← hW0]; exact Arr.new _ _ _
  have hn0 : New w W0 := by rw [← hW0]; exact (Fr.refl _ _).alloc _
  rw [hW0]
  have hax : rb < w.heap.size ∧ lb < w.heap.size := ⟨H.out.p.rows.lt, H.out.d.rows.lt⟩
  obtain ⟨xb, hxb⟩ : ∃ xb, w.heap.size = xb := ⟨_, rfl⟩
  rw [hxb] at hx0 hax ⊢
  have H0 := Lib.hid (H.out.new hn0)
  clear hW0 hxb H hn0
  refine (id_any b2 lb l d who S u v W0 H0.out.d H0.out.pl hu hw1 hw2).mono ?_
  rintro e w1 ⟨h, rfl, hh, hn1⟩
  have H1 := Lib.hid (H0.out.new hn1)
  have HX := Lib.hid (hx0.keep hn1 id)
  have x0 : w1.cell? ⟨xb, 0, none⟩ = some (.int .i64 d) := HX.out.cell 0 _ rfl
  have x3 : w1.cell? ⟨xb, 3, none⟩ = some (.int .u64 v) := HX.out.cell 3 _ rfl
  have x4 : w1.cell? ⟨xb, 4, none⟩ = some (.int .i64 S) := HX.out.cell 4 _ rfl
  have hxl := HX.out.lt
  clear H0 hx0 hn1
  go_wp2_with (go_at_call 15; refine (HWI.out _).mono ?_; rintro e w' ⟨rfl, rfl⟩)
  have hdc := dleave_any b2 lb l h w1 H1.out.d H1.out.pl hh
  have hpc := fun w2 (h2 : PRep w2 b rb l) => pleave_any b rb l h w2 h2 hh
  have hpl2 : Placed (onL l h leaveR) := Placed.on H1.out.pl h mild_leave
  have htk2 : Times (onL l h leaveR) (j + 1) := (Times.on H1.out.tk h mild_leave).up
  unfold EndP at hpc
  unfold EndD at hdc
  generalize onE l h leaveE = oe at hpc hdc
  generalize onL l h leaveR = l2 at hpc hdc hpl2 htk2
  have HPC := Lib.hid hpc
  have HDC := Lib.hid hdc
  have HPL := Lib.hid hpl2
  have HTK := Lib.hid htk2
  clear hpc hdc hpl2 htk2
  refine HDC.out.mono ?_
  rintro e w3 ⟨rx, ry, f, rfl, hfl, hd3, f3⟩
  have HP3 := Lib.hid (H1.out.midP f3)
  have HD3 := Lib.hid hd3
  have F3 := Lib.hid f3
  have HS3 := Lib.hid hfl
  clear hfl hd3 f3 HDC x0 x3 x4
  go_wp2_with fail
  refine (HPC.out w3 HP3.out).mono ?_
  rintro e w4 ⟨x, rfl, hx, hr4, f4⟩
  have hf4 := SaysF.keepIf f4 HS3.out
  have G4 := Lib.hid (H1.out.both' HD3.out F3.out hr4 f4 HPL.out HTK.out)
  have HSM := Lib.hid (same_says x f tabL _ w4 (HG.out.keep G4.out.n id) hx hf4)
  clear hx hr4 f4 hf4 HD3 HP3 F3 HS3 HPC
  go_wp2_with fail
  refine HSM.out.mono ?_
  rintro e w5 ⟨rfl, hn5⟩
  have G5 := Lib.hid (G4.out.new hn5)
  clear hn5
  go_wp2
  go_ret
  exact ⟨rfl, _, G5.out⟩

set_option maxRecDepth 100000 in
set_option maxHeartbeats 4000000 in
theorem do_reap (w0 : World) (b rb b2 lb : Nat) (l : List TR) (j : Nat) (d who S : Int) (u v : Nat) (w : World) (hg : Laid w0) (h : StT w0 w b rb b2 lb l j) (hj : j ≤ 150) (hu : u < 18446744073709551616) (hv : v < 18446744073709551616) (hw1 : -9223372036854775808 ≤ who) (hw2 : who ≤ 9223372036854775807) (hd1 : -9223372036854775808 ≤ d) (hd2 : d ≤ 9223372036854775807) (hq : d % 10 = 9) :
    Calls Tryd.prog 26 #[.pointer (some ⟨b, 0, none⟩), .pointer (some ⟨b2, 0, none⟩), .agg #[.int .i64 d, .int .i64 who, .int .u64 u, .int .u64 v, .int .i64 S]] w fun e w' => e = .returned (.bool true) ∧ ∃ l', StT w0 w' b rb b2 lb l' (j + 1) := by
  have H := Lib.hid h
  have HG := Lib.hid hg
  have hwi := fun w => within_any d 10 w (by omega) (by omega) hd1 hd2
  rw [hq] at hwi
  have HWI := Lib.hid hwi
  clear h hg hwi
  go_enter Tryd.func26, Tryd.ntmps26
  go_wp2_with fail
  obtain ⟨W0, hW0⟩ : ∃ W0, w.alloc (.cells #[.int .i64 d, .int .i64 who, .int .u64 u, .int .u64 v, .int .i64 S] 42) = W0 := ⟨_, rfl⟩
  have hx0 : Arr W0 w.heap.size [.int .i64 d, .int .i64 who, .int .u64 u, .int .u64 v, .int .i64 S] := by rw [← hW0]; exact Arr.new _ _ _
  have hn0 : New w W0 := by rw [← hW0]; exact (Fr.refl _ _).alloc _
  rw [hW0]
  have hax : rb < w.heap.size ∧ lb < w.heap.size := ⟨H.out.p.rows.lt, H.out.d.rows.lt⟩
  obtain ⟨xb, hxb⟩ : ∃ xb, w.heap.size = xb := ⟨_, rfl⟩
  rw [hxb] at hx0 hax ⊢
  have H0 := Lib.hid (H.out.new hn0)
  clear hW0 hxb H hn0
  refine (id_any b2 lb l d who S u v W0 H0.out.d H0.out.pl hu hw1 hw2).mono ?_
  rintro e w1 ⟨h, rfl, hh, hn1⟩
  have H1 := Lib.hid (H0.out.new hn1)
  have HX := Lib.hid (hx0.keep hn1 id)
  have x0 : w1.cell? ⟨xb, 0, none⟩ = some (.int .i64 d) := HX.out.cell 0 _ rfl
  have x3 : w1.cell? ⟨xb, 3, none⟩ = some (.int .u64 v) := HX.out.cell 3 _ rfl
  have x4 : w1.cell? ⟨xb, 4, none⟩ = some (.int .i64 S) := HX.out.cell 4 _ rfl
  have hxl := HX.out.lt
  clear H0 hx0 hn1
  go_wp2_with (go_at_call 15; refine (HWI.out _).mono ?_; rintro e w' ⟨rfl, rfl⟩)
  have hpc := preap_any b rb l h w1 H1.out.p hh
  have hdc := fun w2 (h2 : DRep w2 b2 lb l) => dreap_any b2 lb l h w2 h2 H1.out.pl hh
  have hpl2 : Placed (onL l h reapR) := Placed.on H1.out.pl h mild_reap
  have htk2 : Times (onL l h reapR) (j + 1) := (Times.on H1.out.tk h mild_reap).up
  unfold EndP at hpc
  unfold EndD at hdc
  generalize onE l h reapE = oe at hpc hdc
  generalize onL l h reapR = l2 at hpc hdc hpl2 htk2
  generalize (reapV l h).1 = ra at hpc hdc
  generalize (reapV l h).2.1 = rc at hpc hdc
  generalize (reapV l h).2.2 = rd at hpc hdc
  have t1 : ((ra : Int) == (ra : Int)) = true := by simp
  have t2 : ((rc : Int) == (rc : Int)) = true := by simp
  have t3 : (rd == rd) = true := by simp
  have HPC := Lib.hid hpc
  have HDC := Lib.hid hdc
  have HPL := Lib.hid hpl2
  have HTK := Lib.hid htk2
  clear hpc hdc hpl2 htk2
  refine HPC.out.mono ?_
  rintro e w3 ⟨x, rfl, hx, hr3, f3⟩
  have HD3 := Lib.hid (H1.out.midD f3)
  have HR3 := Lib.hid hr3
  have F3 := Lib.hid f3
  have HS3 := Lib.hid hx
  clear hx hr3 f3 HPC x0 x3 x4
  go_wp2_with fail
  refine (HDC.out w3 HD3.out).mono ?_
  rintro e w4 ⟨f, rfl, hfl, hd4, f4⟩
  have hx4 := Says.keepIf f4 HS3.out
  have G4 := Lib.hid (H1.out.both HR3.out F3.out hd4 f4 HPL.out HTK.out)
  have HSM := Lib.hid (same_says x f tabL _ w4 (HG.out.keep G4.out.n id) hx4 hfl)
  clear hfl hd4 f4 hx4 HD3 HR3 F3 HS3 HDC
  go_wp2_with fail
  refine HSM.out.mono ?_
  rintro e w5 ⟨rfl, hn5⟩
  have G5 := Lib.hid (G4.out.new hn5)
  clear hn5
  go_wp2
  go_ret
  exact ⟨rfl, _, G5.out⟩

set_option maxRecDepth 100000 in
set_option maxHeartbeats 4000000 in
theorem do_born (w0 : World) (b rb b2 lb : Nat) (l : List TR) (j : Nat) (d who S : Int) (u v : Nat) (w : World) (hg : Laid w0) (h : StT w0 w b rb b2 lb l j) (hj : j ≤ 150) (hu : u < 18446744073709551616) (hv : v < 18446744073709551616) (hw1 : -9223372036854775808 ≤ who) (hw2 : who ≤ 9223372036854775807) (hd1 : -9223372036854775808 ≤ d) (hd2 : d ≤ 9223372036854775807) (hq : d % 10 = 0 ∨ d % 10 = 1 ∨ d % 10 = 2) :
    Calls Tryd.prog 26 #[.pointer (some ⟨b, 0, none⟩), .pointer (some ⟨b2, 0, none⟩), .agg #[.int .i64 d, .int .i64 who, .int .u64 u, .int .u64 v, .int .i64 S]] w fun e w' => e = .returned (.bool true) ∧ ∃ l', StT w0 w' b rb b2 lb l' (j + 1) := by
  have H := Lib.hid h
  have HG := Lib.hid hg
  have hwi := fun w => within_any d 10 w (by omega) (by omega) hd1 hd2
  obtain ⟨q, hq0⟩ : ∃ q, d % 10 = q := ⟨_, rfl⟩
  rw [hq0] at hwi hq
  have e3 : (q == 3) = false := by rw [beq_eq_false_iff_ne]; omega
  have e4 : (q == 4) = false := by rw [beq_eq_false_iff_ne]; omega
  have e5 : (q == 5) = false := by rw [beq_eq_false_iff_ne]; omega
  have e6 : (q == 6) = false := by rw [beq_eq_false_iff_ne]; omega
  have e7 : (q == 7) = false := by rw [beq_eq_false_iff_ne]; omega
  have e8 : (q == 8) = false := by rw [beq_eq_false_iff_ne]; omega
  have e9 : (q == 9) = false := by rw [beq_eq_false_iff_ne]; omega
  clear hq hq0
  have HWI := Lib.hid hwi
  clear h hg hwi
  go_enter Tryd.func26, Tryd.ntmps26
  go_wp2_with fail
  obtain ⟨W0, hW0⟩ : ∃ W0, w.alloc (.cells #[.int .i64 d, .int .i64 who, .int .u64 u, .int .u64 v, .int .i64 S] 42) = W0 := ⟨_, rfl⟩
  have hx0 : Arr W0 w.heap.size [.int .i64 d, .int .i64 who, .int .u64 u, .int .u64 v, .int .i64 S] := by rw [← hW0]; exact Arr.new _ _ _
  have hn0 : New w W0 := by rw [← hW0]; exact (Fr.refl _ _).alloc _
  rw [hW0]
  have hax : rb < w.heap.size ∧ lb < w.heap.size := ⟨H.out.p.rows.lt, H.out.d.rows.lt⟩
  obtain ⟨xb, hxb⟩ : ∃ xb, w.heap.size = xb := ⟨_, rfl⟩
  rw [hxb] at hx0 hax ⊢
  have H0 := Lib.hid (H.out.new hn0)
  clear hW0 hxb H hn0
  refine (id_any b2 lb l d who S u v W0 H0.out.d H0.out.pl hu hw1 hw2).mono ?_
  rintro e w1 ⟨h, rfl, hh, hn1⟩
  have H1 := Lib.hid (H0.out.new hn1)
  have HX := Lib.hid (hx0.keep hn1 id)
  have x0 : w1.cell? ⟨xb, 0, none⟩ = some (.int .i64 d) := HX.out.cell 0 _ rfl
  have x3 : w1.cell? ⟨xb, 3, none⟩ = some (.int .u64 v) := HX.out.cell 3 _ rfl
  have x4 : w1.cell? ⟨xb, 4, none⟩ = some (.int .i64 S) := HX.out.cell 4 _ rfl
  have hxl := HX.out.lt
  clear H0 hx0 hn1
  go_wp2_with (go_at_call 15; refine (HWI.out _).mono ?_; rintro e w' ⟨rfl, rfl⟩)
  have hlt9 := H1.out.lt999 (by omega)
  have hpc := pborn_any b rb l v w1 H1.out.p hlt9
  have hdc := fun w2 (h2 : DRep w2 b2 lb l) => dborn_any b2 lb l v w2 h2 H1.out.pl hlt9
  have hpl2 : Placed (bornL l v) := Placed.born H1.out.pl H1.out.tk (by omega) v
  have htk2 : Times (bornL l v) (j + 1) := Times.born H1.out.tk v
  generalize bornE l = oe at hpc hdc
  generalize bornL l v = l2 at hpc hdc hpl2 htk2
  generalize bornI l = ra at hpc hdc
  have t1 : ((ra : Int) == (ra : Int)) = true := by simp
  have HPC := Lib.hid hpc
  have HDC := Lib.hid hdc
  have HPL := Lib.hid hpl2
  have HTK := Lib.hid htk2
  clear hpc hdc hpl2 htk2 hlt9
  refine HPC.out.mono ?_
  rintro e w3 ⟨x, rfl, hx, hr3, f3⟩
  have y3 : w3.cell? ⟨xb, 3, none⟩ = some (.int .u64 v) := (f3.cell hxl (fun e => by have := e.2; omega) _).trans x3
  have HD3 := Lib.hid (H1.out.midD f3)
  have HR3 := Lib.hid hr3
  have F3 := Lib.hid f3
  have HS3 := Lib.hid hx
  clear hx hr3 f3 HPC x0 x3 x4
  go_wp2_with fail
  refine (HDC.out w3 HD3.out).mono ?_
  rintro e w4 ⟨f, rfl, hfl, hd4, f4⟩
  have hx4 := Says.keepIf f4 HS3.out
  have G4 := Lib.hid (H1.out.both HR3.out F3.out hd4 f4 HPL.out HTK.out)
  have HSM := Lib.hid (same_says x f tabL _ w4 (HG.out.keep G4.out.n id) hx4 hfl)
  clear hfl hd4 f4 hx4 HD3 HR3 F3 HS3 HDC y3
  go_wp2_with fail
  refine HSM.out.mono ?_
  rintro e w5 ⟨rfl, hn5⟩
  have G5 := Lib.hid (G4.out.new hn5)
  clear hn5
  go_wp2
  go_ret
  exact ⟨rfl, _, G5.out⟩

theorem do_any (w0 : World) (b rb b2 lb : Nat) (l : List TR) (j : Nat) (d who S : Int) (u v : Nat) (w : World) (hg : Laid w0) (h : StT w0 w b rb b2 lb l j) (hj : j ≤ 150) (hu : u < 18446744073709551616) (hv : v < 18446744073709551616) (hw1 : -9223372036854775808 ≤ who) (hw2 : who ≤ 9223372036854775807) (hd1 : -9223372036854775808 ≤ d) (hd2 : d ≤ 9223372036854775807) :
    Calls Tryd.prog 26 #[.pointer (some ⟨b, 0, none⟩), .pointer (some ⟨b2, 0, none⟩), .agg #[.int .i64 d, .int .i64 who, .int .u64 u, .int .u64 v, .int .i64 S]] w fun e w' => e = .returned (.bool true) ∧ ∃ l', StT w0 w' b rb b2 lb l' (j + 1) := by
  rcases (show (d % 10 = 0 ∨ d % 10 = 1 ∨ d % 10 = 2) ∨ d % 10 = 3 ∨ d % 10 = 4 ∨ d % 10 = 5 ∨ d % 10 = 6 ∨ d % 10 = 7 ∨ d % 10 = 8 ∨ d % 10 = 9 by omega) with hq | hq | hq | hq | hq | hq | hq | hq
  · exact do_born w0 b rb b2 lb l j d who S u v w hg h hj hu hv hw1 hw2 hd1 hd2 hq
  · exact do_be w0 b rb b2 lb l j d who S u v w hg h hj hu hv hw1 hw2 hd1 hd2 hq
  · exact do_join w0 b rb b2 lb l j d who S u v w hg h hj hu hv hw1 hw2 hd1 hd2 hq
  · exact do_loose w0 b rb b2 lb l j d who S u v w hg h hj hu hv hw1 hw2 hd1 hd2 hq
  · exact do_end6 w0 b rb b2 lb l j d who S u v w hg h hj hu hv hw1 hw2 hd1 hd2 hq
  · exact do_end7 w0 b rb b2 lb l j d who S u v w hg h hj hu hv hw1 hw2 hd1 hd2 hq
  · exact do_leave w0 b rb b2 lb l j d who S u v w hg h hj hu hv hw1 hw2 hd1 hd2 hq
  · exact do_reap w0 b rb b2 lb l j d who S u v w hg h hj hu hv hw1 hw2 hd1 hd2 hq

end Go.Proofs.YtpfkfajgbaakoaaDoor
