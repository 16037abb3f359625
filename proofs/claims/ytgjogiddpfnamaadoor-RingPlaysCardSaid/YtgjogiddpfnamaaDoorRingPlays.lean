/- Whatever is put in, taken and dropped is what the document says: the statement's walk. -/
import Derived.Test.YtgjogiddpfnamaaDoorRingK
import Derived.Test.YtgjogiddpfnamaaDoorWithin
import Derived.Test.YtgjogiddpfnamaaDoorRecs
import Derived.Test.YtgjogiddpfnamaaDoorReg
import Derived.Deep.DeepCutAuto
import Derived.Deep.CutBlock
namespace Go.Proofs.YtgjogiddpfnamaaDoor
open Go.ChangeShapes Go.WideShapes Go.RowKit Go.Shelf

/-- Both rings hold L. -/
structure Both (w : World) (b lb rb n : Nat) (L : List Nat) : Prop where
  p : ∃ cs f, RingRep w b lb cs f L.length ∧ cs.length = n ∧ ringL cs f L.length = L
  r : RefRep w rb (inRing b lb) L n
theorem Both.keep {w w' : World} {b lb rb n : Nat} {L : List Nat} (h : Both w b lb rb n L) (f : New w w') : Both w' b lb rb n L := by
  obtain ⟨⟨cs, f0, h1, h2, h3⟩, h4⟩ := h
  exact ⟨⟨cs, f0, h1.keep f id id, h2, h3⟩, h4.keep f (fun _ h => h.elim)⟩
theorem Both.lt {w : World} {b lb rb n : Nat} {L : List Nat} (h : Both w b lb rb n L) : ∀ k, inRing b lb k → k < w.heap.size := by
  obtain ⟨⟨cs, f0, h1, h2, h3⟩, h4⟩ := h
  rintro k (rfl | rfl)
  · exact h1.hd.lt
  · exact h1.cells.lt
theorem Both.apart {w : World} {b lb rb n : Nat} {L : List Nat} (h : Both w b lb rb n L) : rb ≠ b ∧ rb ≠ lb := by
  have := h.r.out
  unfold inRing at this
  omega
abbrev Three (b lb rb : Nat) : Nat → Prop := fun k => k = b ∨ k = lb ∨ k = rb

section
variable {b lb rb n : Nat} {L : List Nat} {w : World}

theorem both_put (v : Nat) (h : Both w b lb rb n L) (hv : v < 18446744073709551616) :
    Calls Tryd.prog 12 #[.pointer (some ⟨b, 0, none⟩), .int .u64 v] w fun e w1 => ∃ x, e = .returned x ∧ Says w1 ringS x (if L.length < n then none else some (0, 3)) ∧ Fr (fun k => L.length < n ∧ inRing b lb k) w w1 ∧
      (∃ cs f, RingRep w1 b lb cs f (if L.length < n then L ++ [v] else L).length ∧ cs.length = n ∧ ringL cs f (if L.length < n then L ++ [v] else L).length = if L.length < n then L ++ [v] else L) := by
  obtain ⟨⟨cs, f, h1, h2, h3⟩, h4⟩ := h
  by_cases hl : L.length < n
  · simp only [if_pos hl]
    refine (put_ok b lb cs f L.length v w h1 (by omega) hv).mono ?_
    rintro e w1 ⟨rfl, hr, hf⟩
    have hp := ringL_put cs f L.length v h1.pos (by omega)
    rw [h3] at hp
    exact ⟨_, rfl, rfl, hf.mono (fun _ _ h => ⟨hl, h⟩), _, f, by rw [List.length_append]; exact hr, by rw [List.length_set]; exact h2, by rw [List.length_append]; exact hp⟩
  · simp only [if_neg hl]
    have := h4.few
    refine (put_full b lb cs f L.length v w h1 (by omega)).mono ?_
    rintro e w1 ⟨eb, rfl, he, hn⟩
    exact ⟨_, rfl, he.says (by omega) (by omega), hn.mono (fun _ _ h => h.elim), cs, f, h1.keep hn id id, h2, h3⟩
theorem ref_put (v : Nat) (h : RefRep w rb (inRing b lb) L n) (hv : v < 18446744073709551616) (hf : ∀ k, inRing b lb k → k < w.heap.size) :
    Calls Tryd.prog 19 #[.pointer (some ⟨rb, 0, none⟩), .int .u64 v] w fun e w1 => ∃ x, e = .returned x ∧ SaysF w1 ringS x (if L.length < n then none else some (0, 3)) ∧ Fr (fun k => L.length < n ∧ k = rb) w w1 ∧
      RefRep w1 rb (inRing b lb) (if L.length < n then L ++ [v] else L) n := by
  by_cases hl : L.length < n
  · simp only [if_pos hl]
    refine (rput_ok rb _ L n v w h hl hv hf).mono ?_
    rintro e w1 ⟨rfl, hr, hf⟩
    exact ⟨_, rfl, rfl, hf.mono (fun _ _ h => ⟨hl, h⟩), hr⟩
  · simp only [if_neg hl]
    have := h.few
    refine (rput_full rb _ L n v w h (by omega)).mono ?_
    rintro e w1 ⟨f, rfl, hf, hn⟩
    exact ⟨_, rfl, hf, hn.mono (fun _ _ h => h.elim), h.keep hn (fun _ h => h.elim)⟩
theorem both_drop (v : Nat) (h : Both w b lb rb n L) (hv : v < 18446744073709551616) :
    Calls Tryd.prog 17 #[.pointer (some ⟨b, 0, none⟩), .int .u64 v] w fun e w1 => e = .returned (.bool (L.contains v)) ∧ Fr (inRing b lb) w w1 ∧
      (∃ cs f, RingRep w1 b lb cs f (L.erase v).length ∧ cs.length = n ∧ ringL cs f (L.erase v).length = L.erase v) := by
  obtain ⟨⟨cs, f, h1, h2, h3⟩, h4⟩ := h
  refine (drop_any b lb cs f L.length v w h1 hv).mono ?_
  rintro e w1 ⟨rfl, ⟨cs', h5, h6, h7⟩, h8⟩
  rw [h3] at h6 h7
  exact ⟨by rw [h3], h8, cs', f, h7, by omega, h6⟩
theorem both_take (h : Both w b lb rb n L) :
    Calls Tryd.prog 13 #[.pointer (some ⟨b, 0, none⟩)] w fun e w1 => e = .returned (.tuple #[.int .u64 (L.headD 0 : Nat), .bool (!L.isEmpty)]) ∧ Fr (inRing b lb) w w1 ∧
      (∃ cs f, RingRep w1 b lb cs f L.tail.length ∧ cs.length = n ∧ ringL cs f L.tail.length = L.tail) := by
  obtain ⟨⟨cs, f, h1, h2, h3⟩, h4⟩ := h
  cases L with
  | nil =>
    refine (take_nil b lb cs f w h1).mono ?_
    rintro e w1 ⟨rfl, rfl⟩
    exact ⟨rfl, Fr.refl _ _, cs, f, h1, h2, h3⟩
  | cons x r =>
    rw [List.length_cons] at h1 h3
    rw [ringL_take cs f r.length h1.pos h1.len.1] at h3
    obtain ⟨e1, e2⟩ := List.cons.inj h3
    refine (take_ok b lb cs f r.length w h1).mono ?_
    rintro e w1 ⟨rfl, h5, h6⟩
    exact ⟨by rw [e1]; rfl, h6, cs, _, h5, h2, e2⟩
theorem ref_take (h : RefRep w rb (inRing b lb) L n) (hf : ∀ k, inRing b lb k → k < w.heap.size) :
    Calls Tryd.prog 16 #[.pointer (some ⟨rb, 0, none⟩)] w fun e w1 => e = .returned (.tuple #[.int .u64 (L.headD 0 : Nat), .bool (!L.isEmpty)]) ∧ Fr (· = rb) w w1 ∧ RefRep w1 rb (inRing b lb) L.tail n := by
  cases L with
  | nil =>
    refine (rtake_nil rb _ n w h).mono ?_
    rintro e w1 ⟨rfl, rfl⟩
    exact ⟨rfl, Fr.refl _ _, h⟩
  | cons x r =>
    refine (rtake_ok rb _ x r n w h hf).mono ?_
    rintro e w1 ⟨rfl, h5, h6⟩
    exact ⟨rfl, h6, h5⟩
end

theorem op_at {w : World} {ao : Option Addr} {rs : List (List Int)} {k : Nat} (h : Recs [.i64, .u64] w ao rs) (hf : ∀ r ∈ rs, RecOk [.i64, .u64] r) (hk : k < rs.length) :
    ∃ (d : Int) (v g off : Nat), ao = some ⟨g, off, none⟩ ∧ g < w.heap.size ∧ v < 18446744073709551616 ∧ -9223372036854775808 ≤ d ∧ d ≤ 9223372036854775807 ∧
      w.cell? ⟨g, off + k * 2, none⟩ = some (.int .i64 d) ∧ w.cell? ⟨g, off + k * 2 + 1, none⟩ = some (.int .u64 v) := by
  have hr : rs[k]? = some rs[k] := by simp [hk]
  obtain ⟨hl, hz⟩ := hf rs[k] (List.getElem_mem hk)
  generalize rs[k] = r at hr hl hz
  obtain ⟨g, off, e, hg, hc⟩ := h k r hr
  match r, hl with
  | [d, V], _ =>
    have b0 := bounds_i64 (hz 0 _ .i64 rfl rfl)
    have b1 := bounds_u64 (hz 1 _ .u64 rfl rfl)
    obtain ⟨V, rfl⟩ := Int.eq_ofNat_of_zero_le b1.1
    exact ⟨d, V, g, off, e, hg, by omega, by omega, by omega, hc 0 _ _ rfl rfl, hc 1 _ _ rfl rfl⟩

set_option maxRecDepth 100000 in
set_option maxHeartbeats 8000000 in
theorem plays_walk (m sm : Int) (rs : List (List Int)) (ao : Option Addr) (ca : Nat) (w : World) (hg : Laid w) (hm1 : -9223372036854775808 ≤ m ∧ m ≤ 9223372036854775807) (hs1 : -9223372036854775808 ≤ sm ∧ sm ≤ 9223372036854775807)
    (hfit : ∀ r ∈ rs, RecOk [.i64, .u64] r) (hc : Recs [.i64, .u64] w ao rs) (hml : rs.length ≤ 9223372036854775807) :
    Calls Tryd.prog 5 #[.int .i64 m, .slice ao rs.length ca, .int .i64 sm] w fun e w' => e = .returned (.bool true) ∧ New w w' := by
  obtain ⟨K, hK⟩ : ∃ K, rs.length = K := ⟨_, rfl⟩
  rw [hK] at hml ⊢
  obtain ⟨k0, hk0, hk1⟩ := within_nat m 12 (by omega)
  obtain ⟨s0, hs0, hs2⟩ := within_nat sm 9 (by omega)
  have HG := Lib.hid hg
  have HC := Lib.hid hc
  have HFIT := Lib.hid hfit
  have HK := Lib.hid hK
  have HK0 := Lib.hid hk0
  have HS0 := Lib.hid hs0
  have hgl := lt_of_cell hg
  clear hg hc hfit hK hk0 hs0
  go_enter Tryd.func5, Tryd.ntmps5
  go_wp2_with fail
  refine (within_any m 12 _ (by omega) (by omega) (by omega) (by omega)).mono ?_
  rintro e w' ⟨rfl, rfl⟩
  rw [HK0.out]
  go_wp2_with fail
  rw [show (1 : Int) + (k0 : Int) = ((k0 + 1 : Nat) : Int) by omega]
  obtain ⟨n, hn⟩ : ∃ n, k0 + 1 = n := ⟨_, rfl⟩
  rw [hn]
  have hn1 : 1 ≤ n := by omega
  have hn9 : n ≤ 12 := by omega
  clear hn hk1 HK0
  refine (new_any n _ hn1 (by omega)).mono ?_
  rintro e w1 ⟨b, lb, rfl, hb, hlb, hr, hn1'⟩
  have HR := Lib.hid hr
  have HN := Lib.hid hn1'
  clear hr hn1'
  go_wp2_with fail
  refine (rnew_any n (inRing b lb) _ hn1 (by omega) (by rintro k (rfl | rfl); exact HR.out.hd.lt; exact HR.out.cells.lt)).mono ?_
  rintro e w2 ⟨rb, rfl, hrb, hr2, hn2⟩
  have HB := Lib.hid (show Both w2 b lb rb n [] from ⟨⟨_, 0, HR.out.keep hn2 id id, by simp, rfl⟩, hr2⟩)
  have hrbw : w.heap.size ≤ rb := by have := HN.out.size; omega
  have HN2 := Lib.hid (HN.out.trans hn2)
  clear hr2 hn2 HR HN
  go_wp2_with fail
  go_loopw [12] (fun i wr => ∃ (k : Nat) (L : List Nat), k ≤ K ∧ k ≤ 120 ∧ i = .int .i64 k ∧ Both wr b lb rb n L ∧ New w wr) (fun i _ => K - (intOf i).toNat)
  case atStart => exact ⟨0, [], by omega, by omega, rfl, HB.out, HN2.out⟩
  case round =>
    clear HB HN2
    obtain ⟨k, L, hk, hk3, rfl, hbo, hnr⟩ := hrel
    have HBO := Lib.hid hbo
    have HNR := Lib.hid hnr
    by_cases hend : k < K ∧ k < 120
    · obtain ⟨hlt, hlt3⟩ := hend
      obtain ⟨d, v, g, off, rfl, hg1, hv, hd1, hd2, c0, c1⟩ := op_at (HC.out.keep hnr) HFIT.out (by rw [HK.out]; exact hlt)
      obtain ⟨q, hq, hq5⟩ := within_nat d 5 (by omega)
      have HQ := Lib.hid hq
      clear hbo hnr hq
      go_wp2_with fail
      refine (within_any d 5 _ (by omega) (by omega) (by omega) (by omega)).mono ?_
      rintro e w' ⟨rfl, rfl⟩
      rw [HQ.out]
      go_upto_block 2 with fail
      obtain ⟨W0, hW0⟩ : ∃ W0, wr.alloc (.cells #[.int .i64 d, .int .u64 v] 46) = W0 := ⟨_, rfl⟩
      have hx0 : Arr W0 wr.heap.size [.int .i64 d, .int .u64 v] := by rw [← hW0]; exact Arr.new _ _ _
      have hn0 : New wr W0 := by rw [← hW0]; exact (Fr.refl _ _).alloc _
      rw [hW0]
      have HX := Lib.hid hx0
      have HN0 := Lib.hid (HNR.out.trans hn0)
      have HB0 := Lib.hid (HBO.out.keep hn0)
      have hxlt := hx0.lt
      have hxw : w.heap.size ≤ wr.heap.size := HNR.out.size
      have hlt0 := HBO.out.lt
      have hb0 := hlt0 b (.inl rfl)
      have hb1 := hlt0 lb (.inr rfl)
      have hb2 : rb < wr.heap.size := by obtain ⟨_, _, h, _⟩ := HBO.out.r.hd; exact h.lt
      generalize hxb : wr.heap.size = xb at HX hxlt hxw hb0 hb1 hb2 ⊢
      clear hW0 hx0 hn0 hxb hlt0 c0 c1 HBO
      have HG0 := Lib.hid (HG.out.keep HN0.out id)
      go_cut [12] (fun s wx => s = .int .i64 k ∧ ∃ L', Both wx b lb rb n L' ∧ New w wx)
      case first => as_aux_lemma =>
        have hap := HB0.out.apart
        rcases (show (q = 0 ∨ q = 1) ∨ (q = 2 ∨ q = 3) ∨ q = 4 by omega) with hq | hq | rfl
        · have hput := fun w h => both_put (w := w) (b := b) (lb := lb) (rb := rb) (n := n) (L := L) v h hv
          have hrput := fun w h hf => ref_put (w := w) (b := b) (lb := lb) (rb := rb) (n := n) (L := L) v h hv hf
          obtain ⟨L2, hL2⟩ : ∃ L2, (if L.length < n then L ++ [v] else L) = L2 := ⟨_, rfl⟩
          obtain ⟨er, her⟩ : ∃ er : Option (Int × Int), (if L.length < n then none else some (0, 3)) = er := ⟨_, rfl⟩
          have her2 : L.length < n → er = none := fun h => by rw [← her, if_pos h]
          simp only [hL2, her] at hput hrput
          have HP := Lib.hid hput
          have HRP := Lib.hid hrput
          have HER := Lib.hid her2
          clear hput hrput hL2 her her2
          have hput := 0
          have e2 : ((q : Int) == 2) = false := by rw [beq_eq_false_iff_ne]; omega
          have e3 : ((q : Int) == 3) = false := by rw [beq_eq_false_iff_ne]; omega
          have e4 : ((q : Int) == 4) = false := by rw [beq_eq_false_iff_ne]; omega
          clear hput hq
          go_wp2_with fail
          have s0 : W0.drew.cell? ⟨xb, 1, none⟩ = some (.int .u64 v) := HX.out.cell 1 _ rfl
          refine heldStart (fun W1 => W1.cell? ⟨xb, 1, none⟩ = some (.int .u64 v)) (by kernel_rfl) ?_
          refine wpAnyH_take (i := 0) (v := ?_) rfl (by kernel_rfl) (by kernel_rfl) (by kernel_rfl) (fun _ _ _ h => h) (Or.inl ⟨by rfl, ?_⟩) s0 ?_
          rotate_left
          · intro w hSw; first | (obtain ⟨s1, s2, s3⟩ := hSw; go_simp; rfl) | (obtain ⟨s1, s2⟩ := hSw; go_simp; rfl) | (have s1 := hSw; go_simp; rfl)
          refine wpAnyH_take (i := 1) (v := ?_) rfl (by kernel_rfl) (by kernel_rfl) (by kernel_rfl) (fun _ _ _ h => h) (Or.inl ⟨by rfl, ?_⟩) s0 ?_
          rotate_left
          · intro w hSw; first | (obtain ⟨s1, s2, s3⟩ := hSw; go_simp; rfl) | (obtain ⟨s1, s2⟩ := hSw; go_simp; rfl) | (have s1 := hSw; go_simp; rfl)
          refine wpAnyH_take (i := 2) (v := ?_) rfl (by kernel_rfl) (by kernel_rfl) (by kernel_rfl) (fun _ _ _ h => h) (Or.inl ⟨by rfl, ?_⟩) s0 ?_
          rotate_left
          · intro w hSw; first | (obtain ⟨s1, s2, s3⟩ := hSw; go_simp; rfl) | (obtain ⟨s1, s2⟩ := hSw; go_simp; rfl) | (have s1 := hSw; go_simp; rfl)
          refine wpAnyH_take (i := 4) (v := ?_) rfl (by kernel_rfl) (by kernel_rfl) (by kernel_rfl) (fun _ _ _ h => h) (Or.inl ⟨by rfl, ?_⟩) s0 ?_
          rotate_left
          · intro w hSw; first | (obtain ⟨s1, s2, s3⟩ := hSw; go_simp; rfl) | (obtain ⟨s1, s2⟩ := hSw; go_simp; rfl) | (have s1 := hSw; go_simp; rfl)
          refine wpAnyH_take (i := 5) (v := ?_) rfl (by kernel_rfl) (by kernel_rfl) (by kernel_rfl) (fun _ _ _ h => h) (Or.inl ⟨by rfl, ?_⟩) s0 ?_
          rotate_left
          · intro w hSw; first | (obtain ⟨s1, s2, s3⟩ := hSw; go_simp; rfl) | (obtain ⟨s1, s2⟩ := hSw; go_simp; rfl) | (have s1 := hSw; go_simp; rfl)
          refine wpAnyH_take (i := 6) (v := ?_) rfl (by kernel_rfl) (by kernel_rfl) (by kernel_rfl) (fun _ _ _ h => h) (Or.inl ⟨by rfl, ?_⟩) s0 ?_
          rotate_left
          · intro w hSw; first | (obtain ⟨s1, s2, s3⟩ := hSw; go_simp; rfl) | (obtain ⟨s1, s2⟩ := hSw; go_simp; rfl) | (have s1 := hSw; go_simp; rfl)
          have hd0 : New W0 W0.drew := (Fr.refl _ _).drew
          have HD := Lib.hid (HB0.out.keep hd0)
          have HND := Lib.hid (HN0.out.trans hd0)
          have HGD := Lib.hid (HG0.out.keep hd0 id)
          have hz0 : xb < W0.drew.heap.size := hxlt
          clear hd0
          generalize W0.drew = V0 at HD HND HGD s0 hz0 ⊢
          refine heldOne (i := 3) (by kernel_rfl) rfl (by rfl) (fun K hK => ?_)
          go_simp
          refine (HP.out V0 HD.out).mono ?_
          rintro e w3 ⟨x, rfl, hx, hf3, hp3⟩
          have f3 : Fr (inRing b lb) V0 w3 := hf3.mono (fun _ _ h => h.2)
          have s1 : w3.cell? ⟨xb, 1, none⟩ = some (.int .u64 v) := (f3.cell hz0 (by unfold inRing; omega) _).trans s0
          have hz1 := f3.size
          have hr3 := HD.out.r.keep f3 (fun _ h => h)
          refine hK.out _ _ s1 ?_
          clear hK K
          refine heldOne (i := 7) (by kernel_rfl) rfl (by rfl) (fun K hK => ?_)
          go_simp
          refine (HRP.out w3 hr3 (fun k hk => Nat.lt_of_lt_of_le (HD.out.lt k hk) hz1)).mono ?_
          rintro e w4 ⟨f, rfl, hfl, hf4, hr4⟩
          have f4 : Fr (· = rb) w3 w4 := hf4.mono (fun _ _ h => h.2)
          have hx4 : Says w4 ringS x er := Says.keepIf (T := (· = rb)) (hf4.mono (fun _ _ h => ⟨HER.out h.1, h.2⟩)) hx
          have s2 : w4.cell? ⟨xb, 1, none⟩ = some (.int .u64 v) := (f4.cell (by omega) (by omega) _).trans s1
          have hz2 := f4.size
          have hb4 : Both w4 b lb rb n L2 := by
            obtain ⟨cs, f0, p1, p2, p3⟩ := hp3
            exact ⟨⟨cs, f0, p1.keep f4 (by omega) (by omega), p2, p3⟩, hr4⟩
          have hn4 : New w w4 := (HND.out.then f3 (fun i hi e => by unfold inRing at e; omega)).then f4 (fun i hi e => by omega)
          have hg4 : Laid w4 := (HGD.out.keep f3 (by unfold inRing; omega)).keep f4 (by omega)
          refine hK.out _ _ s2 ?_
          clear hK K hx hp3 hr4 hr3 hf3
          refine heldOne (i := 8) (by kernel_rfl) rfl (by rfl) (fun K hK => ?_)
          go_simp
          refine (same_says x f ringS er w4 hg4 hx4 hfl).mono ?_
          rintro e w5 ⟨rfl, hn5⟩
          have s3 : w5.cell? ⟨xb, 1, none⟩ = some (.int .u64 v) := (hn5.cell (by omega) id _).trans s2
          have HB5 := Lib.hid (hb4.keep hn5)
          have HN5 := Lib.hid (hn4.trans hn5)
          refine hK.out _ _ s3 ?_
          clear hK K hb4 hn4 hg4 hx4 hfl s2 s1 s0 hf4 f3 f4 hn5
          refine wpAnyH_take (i := 9) (v := ?_) rfl (by kernel_rfl) (by kernel_rfl) (by kernel_rfl) (fun _ _ _ h => h) (Or.inl ⟨by rfl, ?_⟩) s3 ?_
          rotate_left
          · intro w hSw; first | (obtain ⟨s1, s2, s3⟩ := hSw; go_simp; rfl) | (obtain ⟨s1, s2⟩ := hSw; go_simp; rfl) | (have s1 := hSw; go_simp; rfl)
          refine wpAnyH_done (by kernel_rfl) ?_ _
          clear s3
          go_wp2_with fail
          go_meet
          exact ⟨rfl, L2, HB5.out, HN5.out⟩
        · have ht := fun w h => both_take (w := w) (b := b) (lb := lb) (rb := rb) (n := n) (L := L) h
          have hrt := fun w h hf => ref_take (w := w) (b := b) (lb := lb) (rb := rb) (n := n) (L := L) h hf
          generalize L.headD 0 = x at ht hrt
          generalize (!L.isEmpty) = y at ht hrt
          generalize L.tail = T at ht hrt
          have HT := Lib.hid ht
          have HRT := Lib.hid hrt
          clear ht hrt
          have u1 : ((x : Int) != (x : Int)) = false := by simp
          have u2 : (y != y) = false := by simp
          have hqq : ((q : Int) == 2) = true ∨ (((q : Int) == 2) = false ∧ ((q : Int) == 3) = true) := by
            rcases hq with rfl | rfl
            · exact .inl rfl
            · exact .inr ⟨rfl, rfl⟩
          clear hq
          rcases hqq with e2 | ⟨e2, e3⟩
          all_goals
            go_wp2_with fail
            refine (HT.out _ HB0.out).mono ?_
            rintro e w3 ⟨rfl, hf3, hp3⟩
            have hz1 := hf3.size
            have hr3 := HB0.out.r.keep hf3 (fun _ h => h)
            have HR3 := Lib.hid hr3
            have HF3 := Lib.hid hf3
            have HP3 := Lib.hid hp3
            clear hr3 hf3 hp3
            go_wp2_with fail
            refine (HRT.out _ HR3.out (fun k hk => Nat.lt_of_lt_of_le (HB0.out.lt k hk) hz1)).mono ?_
            rintro e w4 ⟨rfl, hf4, hr4⟩
            have hb4 : Both w4 b lb rb n T := by
              obtain ⟨cs, f0, p1, p2, p3⟩ := HP3.out
              exact ⟨⟨cs, f0, p1.keep hf4 (by omega) (by omega), p2, p3⟩, hr4⟩
            have HB4 := Lib.hid hb4
            have HN4 := Lib.hid ((HN0.out.then HF3.out (fun i hi e => by unfold inRing at e; omega)).then hf4 (fun i hi e => by omega))
            clear hb4 hf4 hr4
            go_wp2_with fail
            go_meet
            exact ⟨rfl, T, HB4.out, HN4.out⟩
        · have hdr := fun w h => both_drop (w := w) (b := b) (lb := lb) (rb := rb) (n := n) (L := L) v h hv
          have hrd := fun w h hf => rdrop_any rb (inRing b lb) L n v w h hf
          generalize L.contains v = y at hdr hrd
          generalize L.erase v = T at hdr hrd
          have u2 : (y != y) = false := by simp
          have HDR := Lib.hid hdr
          have HRD := Lib.hid hrd
          clear hdr hrd
          rw [show ((4 : Nat) : Int) = 4 from rfl]
          go_wp2_with fail
          have s0 : W0.drew.cell? ⟨xb, 1, none⟩ = some (.int .u64 v) := HX.out.cell 1 _ rfl
          refine heldStart (fun W1 => W1.cell? ⟨xb, 1, none⟩ = some (.int .u64 v)) (by kernel_rfl) ?_
          refine wpAnyH_take (i := 0) (v := ?_) rfl (by kernel_rfl) (by kernel_rfl) (by kernel_rfl) (fun _ _ _ h => h) (Or.inl ⟨by rfl, ?_⟩) s0 ?_
          rotate_left
          · intro w hSw; first | (obtain ⟨s1, s2, s3⟩ := hSw; go_simp; rfl) | (obtain ⟨s1, s2⟩ := hSw; go_simp; rfl) | (have s1 := hSw; go_simp; rfl)
          refine wpAnyH_take (i := 1) (v := ?_) rfl (by kernel_rfl) (by kernel_rfl) (by kernel_rfl) (fun _ _ _ h => h) (Or.inl ⟨by rfl, ?_⟩) s0 ?_
          rotate_left
          · intro w hSw; first | (obtain ⟨s1, s2, s3⟩ := hSw; go_simp; rfl) | (obtain ⟨s1, s2⟩ := hSw; go_simp; rfl) | (have s1 := hSw; go_simp; rfl)
          refine wpAnyH_take (i := 2) (v := ?_) rfl (by kernel_rfl) (by kernel_rfl) (by kernel_rfl) (fun _ _ _ h => h) (Or.inl ⟨by rfl, ?_⟩) s0 ?_
          rotate_left
          · intro w hSw; first | (obtain ⟨s1, s2, s3⟩ := hSw; go_simp; rfl) | (obtain ⟨s1, s2⟩ := hSw; go_simp; rfl) | (have s1 := hSw; go_simp; rfl)
          refine wpAnyH_take (i := 4) (v := ?_) rfl (by kernel_rfl) (by kernel_rfl) (by kernel_rfl) (fun _ _ _ h => h) (Or.inl ⟨by rfl, ?_⟩) s0 ?_
          rotate_left
          · intro w hSw; first | (obtain ⟨s1, s2, s3⟩ := hSw; go_simp; rfl) | (obtain ⟨s1, s2⟩ := hSw; go_simp; rfl) | (have s1 := hSw; go_simp; rfl)
          refine wpAnyH_take (i := 5) (v := ?_) rfl (by kernel_rfl) (by kernel_rfl) (by kernel_rfl) (fun _ _ _ h => h) (Or.inl ⟨by rfl, ?_⟩) s0 ?_
          rotate_left
          · intro w hSw; first | (obtain ⟨s1, s2, s3⟩ := hSw; go_simp; rfl) | (obtain ⟨s1, s2⟩ := hSw; go_simp; rfl) | (have s1 := hSw; go_simp; rfl)
          refine wpAnyH_take (i := 6) (v := ?_) rfl (by kernel_rfl) (by kernel_rfl) (by kernel_rfl) (fun _ _ _ h => h) (Or.inl ⟨by rfl, ?_⟩) s0 ?_
          rotate_left
          · intro w hSw; first | (obtain ⟨s1, s2, s3⟩ := hSw; go_simp; rfl) | (obtain ⟨s1, s2⟩ := hSw; go_simp; rfl) | (have s1 := hSw; go_simp; rfl)
          have hd0 : New W0 W0.drew := (Fr.refl _ _).drew
          have HD := Lib.hid (HB0.out.keep hd0)
          have HND := Lib.hid (HN0.out.trans hd0)
          have HGD := Lib.hid (HG0.out.keep hd0 id)
          have hz0 : xb < W0.drew.heap.size := hxlt
          clear hd0
          generalize W0.drew = V0 at HD HND HGD s0 hz0 ⊢
          refine heldOne (i := 3) (by kernel_rfl) rfl (by rfl) (fun K hK => ?_)
          go_simp
          refine (HDR.out V0 HD.out).mono ?_
          rintro e w3 ⟨rfl, f3, hp3⟩
          have s1 : w3.cell? ⟨xb, 1, none⟩ = some (.int .u64 v) := (f3.cell hz0 (by unfold inRing; omega) _).trans s0
          have hz1 := f3.size
          have hr3 := HD.out.r.keep f3 (fun _ h => h)
          refine hK.out _ _ s1 ?_
          clear hK K
          refine heldOne (i := 7) (by kernel_rfl) rfl (by rfl) (fun K hK => ?_)
          go_simp
          refine (HRD.out w3 hr3 (fun k hk => Nat.lt_of_lt_of_le (HD.out.lt k hk) hz1)).mono ?_
          rintro e w4 ⟨rfl, hr4, f4⟩
          have s2 : w4.cell? ⟨xb, 1, none⟩ = some (.int .u64 v) := (f4.cell (by omega) (by omega) _).trans s1
          have hb4 : Both w4 b lb rb n T := by
            obtain ⟨cs, f0, p1, p2, p3⟩ := hp3
            exact ⟨⟨cs, f0, p1.keep f4 (by omega) (by omega), p2, p3⟩, hr4⟩
          have HB4 := Lib.hid hb4
          have HN4 := Lib.hid ((HND.out.then f3 (fun i hi e => by unfold inRing at e; omega)).then f4 (fun i hi e => by omega))
          refine hK.out _ _ s2 ?_
          clear hK K hp3 hr4 hr3 hb4 s1 s0 f3 f4
          refine wpAnyH_take (i := 8) (v := ?_) rfl (by kernel_rfl) (by kernel_rfl) (by kernel_rfl) (fun _ _ _ h => h) (Or.inl ⟨by rfl, ?_⟩) s2 ?_
          rotate_left
          · intro w hSw; first | (obtain ⟨s1, s2, s3⟩ := hSw; go_simp; rfl) | (obtain ⟨s1, s2⟩ := hSw; go_simp; rfl) | (have s1 := hSw; go_simp; rfl)
          refine wpAnyH_done (by kernel_rfl) ?_ _
          clear s2
          go_wp2_with fail
          go_meet
          exact ⟨rfl, T, HB4.out, HN4.out⟩
      obtain ⟨rfl, L', hb', hn'⟩ := hcut
      have HB' := Lib.hid hb'
      have HN' := Lib.hid hn'
      clear hb' hn' HB0 HN0 HG0 HX hxw hb0 hb1 hb2 hxlt
      obtain ⟨cs, f, hp1, hp2, hp3⟩ := HB'.out.p
      have hfew := HB'.out.r.few
      have ha := allL_any b lb cs f L'.length 1000 wc hp1 (by omega) (by omega)
      rw [hp3, List.take_of_length_le (by omega)] at ha
      obtain ⟨N, hN⟩ : ∃ N, L'.length = N := ⟨_, rfl⟩
      have HA := Lib.hid ha
      have HP1 := Lib.hid hp1
      have HNN := Lib.hid hN
      clear ha hp1 hp2 hp3 hN
      go_wp2_with fail
      refine HA.out.mono ?_
      rintro e w5 ⟨vv, rfl, hown, hn5⟩
      obtain ⟨ao2, cap2, rfl, hcap2, hrow2⟩ := row_own (far := fun _ => False) hown (fun _ h => h.elim)
      have HB5 := Lib.hid (HB'.out.keep hn5)
      have HN5 := Lib.hid (HN'.out.trans hn5)
      have HR5 := Lib.hid hrow2
      obtain ⟨ao3, cap3, har, hcap3, hrow3⟩ := HB5.out.r.hd
      have hrlt := har.lt
      have s0 : w5.drew.cell? ⟨rb, 0, none⟩ = some (.slice ao3 L'.length cap3) := har.cell 0 _ rfl
      have HRW3 := Lib.hid hrow3
      rw [HNN.out] at s0 hfew ⊢
      clear hown hrow2 hn5 har hrow3 hcap2 hcap3 HA HP1 HB'
      go_wp2_with fail
      refine heldStart (fun W1 => W1.cell? ⟨rb, 0, none⟩ = some (.slice ao3 N cap3)) (by kernel_rfl) ?_
      refine wpAnyH_take (i := 0) (v := ?_) rfl (by kernel_rfl) (by kernel_rfl) (by kernel_rfl) (fun _ _ _ h => h) (Or.inl ⟨by rfl, ?_⟩) s0 ?_
      rotate_left
      · intro w hSw; first | (obtain ⟨s1, s2, s3⟩ := hSw; go_simp; rfl) | (obtain ⟨s1, s2⟩ := hSw; go_simp; rfl) | (have s1 := hSw; go_simp; rfl)
      go_simp
      refine wpAnyH_take (i := 1) (v := ?_) rfl (by kernel_rfl) (by kernel_rfl) (by kernel_rfl) (fun _ _ _ h => h) (Or.inl ⟨by rfl, ?_⟩) s0 ?_
      rotate_left
      · intro w hSw; first | (obtain ⟨s1, s2, s3⟩ := hSw; go_simp; rfl) | (obtain ⟨s1, s2⟩ := hSw; go_simp; rfl) | (have s1 := hSw; go_simp; rfl)
      go_simp
      refine wpAnyH_take (i := 2) (v := ?_) rfl (by kernel_rfl) (by kernel_rfl) (by kernel_rfl) (fun _ _ _ h => h) (Or.inl ⟨by rfl, ?_⟩) s0 ?_
      rotate_left
      · intro w hSw; first | (obtain ⟨s1, s2, s3⟩ := hSw; go_simp; rfl) | (obtain ⟨s1, s2⟩ := hSw; go_simp; rfl) | (have s1 := hSw; go_simp; rfl)
      go_simp
      refine wpAnyH_take (i := 3) (v := ?_) rfl (by kernel_rfl) (by kernel_rfl) (by kernel_rfl) (fun _ _ _ h => h) (Or.inl ⟨by rfl, ?_⟩) s0 ?_
      rotate_left
      · intro w hSw; first | (obtain ⟨s1, s2, s3⟩ := hSw; go_simp; rfl) | (obtain ⟨s1, s2⟩ := hSw; go_simp; rfl) | (have s1 := hSw; go_simp; rfl)
      go_simp
      refine wpAnyH_take (i := 4) (v := ?_) rfl (by kernel_rfl) (by kernel_rfl) (by kernel_rfl) (fun _ _ _ h => h) (Or.inl ⟨by rfl, ?_⟩) s0 ?_
      rotate_left
      · intro w hSw; first | (obtain ⟨s1, s2, s3⟩ := hSw; go_simp; rfl) | (obtain ⟨s1, s2⟩ := hSw; go_simp; rfl) | (have s1 := hSw; go_simp; rfl)
      go_simp
      refine wpAnyH_take (i := 5) (v := ?_) rfl (by kernel_rfl) (by kernel_rfl) (by kernel_rfl) (fun _ _ _ h => h) (Or.inl ⟨by rfl, ?_⟩) s0 ?_
      rotate_left
      · intro w hSw; first | (obtain ⟨s1, s2, s3⟩ := hSw; go_simp; rfl) | (obtain ⟨s1, s2⟩ := hSw; go_simp; rfl) | (have s1 := hSw; go_simp; rfl)
      go_simp
      refine wpAnyH_take (i := 6) (v := ?_) rfl (by kernel_rfl) (by kernel_rfl) (by kernel_rfl) (fun _ _ _ h => h) (Or.inl ⟨by rfl, ?_⟩) s0 ?_
      rotate_left
      · intro w hSw; first | (obtain ⟨s1, s2, s3⟩ := hSw; go_simp; rfl) | (obtain ⟨s1, s2⟩ := hSw; go_simp; rfl) | (have s1 := hSw; go_simp; rfl)
      go_simp
      refine wpAnyH_take (i := 7) (v := ?_) rfl (by kernel_rfl) (by kernel_rfl) (by kernel_rfl) (fun _ _ _ h => h) (Or.inl ⟨by rfl, ?_⟩) s0 ?_
      rotate_left
      · intro w hSw; first | (obtain ⟨s1, s2, s3⟩ := hSw; go_simp; rfl) | (obtain ⟨s1, s2⟩ := hSw; go_simp; rfl) | (have s1 := hSw; go_simp; rfl)
      go_simp
      have hd0 : New w5 w5.drew := (Fr.refl _ _).drew
      have HB6 := Lib.hid (HB5.out.keep hd0)
      have HN6 := Lib.hid (HN5.out.trans hd0)
      have HQ6 := Lib.hid (HR5.out.keep hd0 (fun _ h => h.elim))
      have HW6 := Lib.hid (HRW3.out.keep hd0 (fun _ h => h.elim))
      have hz0 : rb < w5.drew.heap.size := hrlt
      clear hd0 HB5 HN5 HR5 HRW3
      generalize w5.drew = V0 at HB6 HN6 HQ6 HW6 s0 hz0 ⊢
      refine heldOne (i := 8) (by kernel_rfl) rfl (by rfl) (fun K hK => ?_)
      go_simp
      have hws := words_same L' ao2 ao3 cap2 cap3 V0 HQ6.out.nats HW6.out.nats (by rw [HNN.out]; omega)
      rw [HNN.out] at hws
      refine hws.mono ?_
      rintro e w6 ⟨rfl, hn6⟩
      have s1 : w6.cell? ⟨rb, 0, none⟩ = some (.slice ao3 N cap3) := (hn6.cell hz0 id _).trans s0
      have HB7 := Lib.hid (HB6.out.keep hn6)
      have HN7 := Lib.hid (HN6.out.trans hn6)
      have hz1 := hn6.size
      refine hK.out _ _ s1 ?_
      clear hK K hws hn6 HB6 HN6 HQ6 HW6 s0
      refine wpAnyH_take (i := 9) (v := ?_) rfl (by kernel_rfl) (by kernel_rfl) (by kernel_rfl) (fun _ _ _ h => h) (Or.inl ⟨by rfl, ?_⟩) s1 ?_
      rotate_left
      · intro w hSw; first | (obtain ⟨s1, s2, s3⟩ := hSw; go_simp; rfl) | (obtain ⟨s1, s2⟩ := hSw; go_simp; rfl) | (have s1 := hSw; go_simp; rfl)
      go_simp
      refine wpAnyH_take (i := 10) (v := ?_) rfl (by kernel_rfl) (by kernel_rfl) (by kernel_rfl) (fun _ _ _ h => h) (Or.inl ⟨by rfl, ?_⟩) s1 ?_
      rotate_left
      · intro w hSw; first | (obtain ⟨s1, s2, s3⟩ := hSw; go_simp; rfl) | (obtain ⟨s1, s2⟩ := hSw; go_simp; rfl) | (have s1 := hSw; go_simp; rfl)
      go_simp
      refine wpAnyH_take (i := 11) (v := ?_) rfl (by kernel_rfl) (by kernel_rfl) (by kernel_rfl) (fun _ _ _ h => h) (Or.inl ⟨by rfl, ?_⟩) s1 ?_
      rotate_left
      · intro w hSw; first | (obtain ⟨s1, s2, s3⟩ := hSw; go_simp; rfl) | (obtain ⟨s1, s2⟩ := hSw; go_simp; rfl) | (have s1 := hSw; go_simp; rfl)
      go_simp
      refine wpAnyH_take (i := 12) (v := ?_) rfl (by kernel_rfl) (by kernel_rfl) (by kernel_rfl) (fun _ _ _ h => h) (Or.inl ⟨by rfl, ?_⟩) s1 ?_
      rotate_left
      · intro w hSw; first | (obtain ⟨s1, s2, s3⟩ := hSw; go_simp; rfl) | (obtain ⟨s1, s2⟩ := hSw; go_simp; rfl) | (have s1 := hSw; go_simp; rfl)
      go_simp
      refine wpAnyH_take (i := 14) (v := ?_) rfl (by kernel_rfl) (by kernel_rfl) (by kernel_rfl) (fun _ _ _ h => h) (Or.inl ⟨by rfl, ?_⟩) s1 ?_
      rotate_left
      · intro w hSw; first | (obtain ⟨s1, s2, s3⟩ := hSw; go_simp; rfl) | (obtain ⟨s1, s2⟩ := hSw; go_simp; rfl) | (have s1 := hSw; go_simp; rfl)
      go_simp
      refine wpAnyH_take (i := 15) (v := ?_) rfl (by kernel_rfl) (by kernel_rfl) (by kernel_rfl) (fun _ _ _ h => h) (Or.inl ⟨by rfl, ?_⟩) s1 ?_
      rotate_left
      · intro w hSw; first | (obtain ⟨s1, s2, s3⟩ := hSw; go_simp; rfl) | (obtain ⟨s1, s2⟩ := hSw; go_simp; rfl) | (have s1 := hSw; go_simp; rfl)
      go_simp
      refine wpAnyH_take (i := 16) (v := ?_) rfl (by kernel_rfl) (by kernel_rfl) (by kernel_rfl) (fun _ _ _ h => h) (Or.inl ⟨by rfl, ?_⟩) s1 ?_
      rotate_left
      · intro w hSw; first | (obtain ⟨s1, s2, s3⟩ := hSw; go_simp; rfl) | (obtain ⟨s1, s2⟩ := hSw; go_simp; rfl) | (have s1 := hSw; go_simp; rfl)
      go_simp
      refine wpAnyH_take (i := 17) (v := ?_) rfl (by kernel_rfl) (by kernel_rfl) (by kernel_rfl) (fun _ _ _ h => h) (Or.inl ⟨by rfl, ?_⟩) s1 ?_
      rotate_left
      · intro w hSw; first | (obtain ⟨s1, s2, s3⟩ := hSw; go_simp; rfl) | (obtain ⟨s1, s2⟩ := hSw; go_simp; rfl) | (have s1 := hSw; go_simp; rfl)
      go_simp
      refine wpAnyH_take (i := 18) (v := ?_) rfl (by kernel_rfl) (by kernel_rfl) (by kernel_rfl) (fun _ _ _ h => h) (Or.inl ⟨by rfl, ?_⟩) s1 ?_
      rotate_left
      · intro w hSw; first | (obtain ⟨s1, s2, s3⟩ := hSw; go_simp; rfl) | (obtain ⟨s1, s2⟩ := hSw; go_simp; rfl) | (have s1 := hSw; go_simp; rfl)
      go_simp
      refine heldOne (i := 13) (by kernel_rfl) rfl (by rfl) (fun K hK => ?_)
      go_simp
      obtain ⟨cs7, f7, hp7, _, _⟩ := HB7.out.p
      rw [HNN.out] at hp7
      refine (len_any b lb cs7 f7 N w6 hp7).mono ?_
      rintro e w7 ⟨rfl, hn7⟩
      have s2 : w7.cell? ⟨rb, 0, none⟩ = some (.slice ao3 N cap3) := (hn7.cell (by omega) id _).trans s1
      have HB8 := Lib.hid (HB7.out.keep hn7)
      have HN8 := Lib.hid (HN7.out.trans hn7)
      refine hK.out _ _ s2 ?_
      clear hK K hn7 hp7 HB7 HN7 s1
      have t9 : ((N : Int) != (N : Int)) = false := by simp
      refine wpAnyH_take (i := 19) (v := ?_) rfl (by kernel_rfl) (by kernel_rfl) (by kernel_rfl) (fun _ _ _ h => h) (Or.inl ⟨by rfl, ?_⟩) s2 ?_
      rotate_left
      · intro w hSw; first | (obtain ⟨s1, s2, s3⟩ := hSw; go_simp; rfl) | (obtain ⟨s1, s2⟩ := hSw; go_simp; rfl) | (have s1 := hSw; go_simp; rfl)
      go_simp
      refine wpAnyH_take (i := 20) (v := ?_) rfl (by kernel_rfl) (by kernel_rfl) (by kernel_rfl) (fun _ _ _ h => h) (Or.inl ⟨by rfl, ?_⟩) s2 ?_
      rotate_left
      · intro w hSw; first | (obtain ⟨s1, s2, s3⟩ := hSw; go_simp; rfl) | (obtain ⟨s1, s2⟩ := hSw; go_simp; rfl) | (have s1 := hSw; go_simp; rfl)
      go_simp
      refine wpAnyH_done (by kernel_rfl) ?_ _
      clear s2
      go_wp2_with fail
      go_roundw
      case rel => exact ⟨k + 1, L', by omega, by omega, by go_num, HB8.out, HN8.out⟩
      case measure => simp [intOf]; omega
    · have hfew := hbo.r.few
      obtain ⟨cs, f, hp1, hp2, hp3⟩ := hbo.p
      obtain ⟨M, hM⟩ : ∃ M, s0 + 1 = M := ⟨_, rfl⟩
      have hM1 : 1 ≤ M := by omega
      have hM9 : M ≤ 9 := by omega
      have ha := allL_any b lb cs f L.length M wr hp1 hM1 (by omega)
      rw [hp3] at ha
      obtain ⟨N, hN⟩ : ∃ N, L.length = N := ⟨_, rfl⟩
      have hmin : (L.take M).length = min M N := by rw [List.length_take, hN]
      have HA := Lib.hid ha
      have HNN := Lib.hid hN
      have HMI := Lib.hid hmin
      have hsz : (1 : Int) + (s0 : Int) = (M : Int) := by omega
      have HSZ := Lib.hid hsz
      rw [hN] at hfew
      clear hbo hnr ha hp1 hp2 hp3 hN hM hsz hmin
      by_cases hkl : k < K
      all_goals
        go_wp2_with fail
        refine (within_any sm 9 _ (by omega) (by omega) (by omega) (by omega)).mono ?_
        rintro e w' ⟨rfl, rfl⟩
        rw [HS0.out]
        go_wp2_with fail
        rw [HSZ.out]
        refine HA.out.mono ?_
        rintro e w5 ⟨vv, rfl, hown, hn5⟩
        obtain ⟨ao2, cap2, rfl, hcap2, hrow2⟩ := row_own (far := fun _ => False) hown (fun _ h => h.elim)
        have HN5 := Lib.hid (HNR.out.trans hn5)
        have HR5 := Lib.hid hrow2
        obtain ⟨ao3, cap3, har, hcap3, hrow3⟩ := (HBO.out.keep hn5).r.hd
        have hrlt := har.lt
        have s0' : w5.drew.cell? ⟨rb, 0, none⟩ = some (.slice ao3 L.length cap3) := har.cell 0 _ rfl
        have HRW3 := Lib.hid hrow3
        rw [HNN.out] at s0' hcap3
        clear hown hrow2 hn5 har hrow3 hcap2 HA
        rcases (show M ≤ N ∨ N < M by omega) with hMN | hMN
        · have hNM : ¬ N < M := by omega
          have q2 : (M : Int) ≤ (cap3 : Int) := by omega
          have q3 : (0 : Int) ≤ (M : Int) := by omega
          have hml : (L.take M).length = M := by rw [HMI.out]; omega
          have HML := Lib.hid hml
          rw [hml]
          clear hml
          go_wp2_with fail
          refine heldStart (fun W1 => W1.cell? ⟨rb, 0, none⟩ = some (.slice ao3 N cap3)) (by kernel_rfl) ?_
          refine wpAnyH_take (i := 0) (v := ?_) rfl (by kernel_rfl) (by kernel_rfl) (by kernel_rfl) (fun _ _ _ h => h) (Or.inl ⟨by rfl, ?_⟩) s0' ?_
          rotate_left
          · intro w hSw; first | (obtain ⟨s1, s2, s3⟩ := hSw; go_simp; rfl) | (obtain ⟨s1, s2⟩ := hSw; go_simp; rfl) | (have s1 := hSw; go_simp; rfl)
          go_simp
          refine wpAnyH_take (i := 1) (v := ?_) rfl (by kernel_rfl) (by kernel_rfl) (by kernel_rfl) (fun _ _ _ h => h) (Or.inl ⟨by rfl, ?_⟩) s0' ?_
          rotate_left
          · intro w hSw; first | (obtain ⟨s1, s2, s3⟩ := hSw; go_simp; rfl) | (obtain ⟨s1, s2⟩ := hSw; go_simp; rfl) | (have s1 := hSw; go_simp; rfl)
          go_simp
          refine wpAnyH_take (i := 2) (v := ?_) rfl (by kernel_rfl) (by kernel_rfl) (by kernel_rfl) (fun _ _ _ h => h) (Or.inl ⟨by rfl, ?_⟩) s0' ?_
          rotate_left
          · intro w hSw; first | (obtain ⟨s1, s2, s3⟩ := hSw; go_simp; rfl) | (obtain ⟨s1, s2⟩ := hSw; go_simp; rfl) | (have s1 := hSw; go_simp; rfl)
          go_simp
          refine wpAnyH_take (i := 3) (v := ?_) rfl (by kernel_rfl) (by kernel_rfl) (by kernel_rfl) (fun _ _ _ h => h) (Or.inl ⟨by rfl, ?_⟩) s0' ?_
          rotate_left
          · intro w hSw; first | (obtain ⟨s1, s2, s3⟩ := hSw; go_simp; rfl) | (obtain ⟨s1, s2⟩ := hSw; go_simp; rfl) | (have s1 := hSw; go_simp; rfl)
          go_simp
          refine wpAnyH_take (i := 4) (v := ?_) rfl (by kernel_rfl) (by kernel_rfl) (by kernel_rfl) (fun _ _ _ h => h) (Or.inl ⟨by rfl, ?_⟩) s0' ?_
          rotate_left
          · intro w hSw; first | (obtain ⟨s1, s2, s3⟩ := hSw; go_simp; rfl) | (obtain ⟨s1, s2⟩ := hSw; go_simp; rfl) | (have s1 := hSw; go_simp; rfl)
          go_simp
          refine wpAnyH_take (i := 5) (v := ?_) rfl (by kernel_rfl) (by kernel_rfl) (by kernel_rfl) (fun _ _ _ h => h) (Or.inl ⟨by rfl, ?_⟩) s0' ?_
          rotate_left
          · intro w hSw; first | (obtain ⟨s1, s2, s3⟩ := hSw; go_simp; rfl) | (obtain ⟨s1, s2⟩ := hSw; go_simp; rfl) | (have s1 := hSw; go_simp; rfl)
          go_simp
          refine wpAnyH_take (i := 6) (v := ?_) rfl (by kernel_rfl) (by kernel_rfl) (by kernel_rfl) (fun _ _ _ h => h) (Or.inl ⟨by rfl, ?_⟩) s0' ?_
          rotate_left
          · intro w hSw; first | (obtain ⟨s1, s2, s3⟩ := hSw; go_simp; rfl) | (obtain ⟨s1, s2⟩ := hSw; go_simp; rfl) | (have s1 := hSw; go_simp; rfl)
          go_simp
          refine wpAnyH_take (i := 7) (v := ?_) rfl (by kernel_rfl) (by kernel_rfl) (by kernel_rfl) (fun _ _ _ h => h) (Or.inl ⟨by rfl, ?_⟩) s0' ?_
          rotate_left
          · intro w hSw; first | (obtain ⟨s1, s2, s3⟩ := hSw; go_simp; rfl) | (obtain ⟨s1, s2⟩ := hSw; go_simp; rfl) | (have s1 := hSw; go_simp; rfl)
          go_simp
          refine wpAnyH_take (i := 8) (v := ?_) rfl (by kernel_rfl) (by kernel_rfl) (by kernel_rfl) (fun _ _ _ h => h) (Or.inl ⟨by rfl, ?_⟩) s0' ?_
          rotate_left
          · intro w hSw; first | (obtain ⟨s1, s2, s3⟩ := hSw; go_simp; rfl) | (obtain ⟨s1, s2⟩ := hSw; go_simp; rfl) | (have s1 := hSw; go_simp; rfl)
          go_simp
          refine wpAnyH_take (i := 9) (v := ?_) rfl (by kernel_rfl) (by kernel_rfl) (by kernel_rfl) (fun _ _ _ h => h) (Or.inl ⟨by rfl, ?_⟩) s0' ?_
          rotate_left
          · intro w hSw; first | (obtain ⟨s1, s2, s3⟩ := hSw; go_simp; rfl) | (obtain ⟨s1, s2⟩ := hSw; go_simp; rfl) | (have s1 := hSw; go_simp; rfl)
          go_simp
          refine wpAnyH_take (i := 10) (v := ?_) rfl (by kernel_rfl) (by kernel_rfl) (by kernel_rfl) (fun _ _ _ h => h) (Or.inl ⟨by rfl, ?_⟩) s0' ?_
          rotate_left
          · intro w hSw; first | (obtain ⟨s1, s2, s3⟩ := hSw; go_simp; rfl) | (obtain ⟨s1, s2⟩ := hSw; go_simp; rfl) | (have s1 := hSw; go_simp; rfl)
          go_simp
          refine wpAnyH_take (i := 11) (v := ?_) rfl (by kernel_rfl) (by kernel_rfl) (by kernel_rfl) (fun _ _ _ h => h) (Or.inl ⟨by rfl, ?_⟩) s0' ?_
          rotate_left
          · intro w hSw; first | (obtain ⟨s1, s2, s3⟩ := hSw; go_simp; rfl) | (obtain ⟨s1, s2⟩ := hSw; go_simp; rfl) | (have s1 := hSw; go_simp; rfl)
          go_simp
          refine wpAnyH_take (i := 12) (v := ?_) rfl (by kernel_rfl) (by kernel_rfl) (by kernel_rfl) (fun _ _ _ h => h) (Or.inl ⟨by rfl, ?_⟩) s0' ?_
          rotate_left
          · intro w hSw; first | (obtain ⟨s1, s2, s3⟩ := hSw; go_simp; rfl) | (obtain ⟨s1, s2⟩ := hSw; go_simp; rfl) | (have s1 := hSw; go_simp; rfl)
          go_simp
          refine wpAnyH_take (i := 13) (v := ?_) rfl (by kernel_rfl) (by kernel_rfl) (by kernel_rfl) (fun _ _ _ h => h) (Or.inl ⟨by rfl, ?_⟩) s0' ?_
          rotate_left
          · intro w hSw; first | (obtain ⟨s1, s2, s3⟩ := hSw; go_simp; rfl) | (obtain ⟨s1, s2⟩ := hSw; go_simp; rfl) | (have s1 := hSw; go_simp; rfl)
          go_simp
          refine wpAnyH_take (i := 14) (v := ?_) rfl (by kernel_rfl) (by kernel_rfl) (by kernel_rfl) (fun _ _ _ h => h) (Or.inl ⟨by rfl, ?_⟩) s0' ?_
          rotate_left
          · intro w hSw; first | (obtain ⟨s1, s2, s3⟩ := hSw; go_simp; rfl) | (obtain ⟨s1, s2⟩ := hSw; go_simp; rfl) | (have s1 := hSw; go_simp; rfl)
          go_simp
          have hsl := HRW3.out
          have hd0 : New w5 w5.drew := (Fr.refl _ _).drew
          have HN6 := Lib.hid (HN5.out.trans hd0)
          have HQ6 := Lib.hid (HR5.out.keep hd0 (fun _ h => h.elim)).nats
          have HW6 := Lib.hid (HRW3.out.keep hd0 (fun _ h => h.elim)).nats
          have hz0 : rb < w5.drew.heap.size := hrlt
          clear hd0 HN5 HR5 HRW3 hsl
          generalize w5.drew = V0 at HN6 HQ6 HW6 s0' hz0 ⊢
          refine heldOne (i := 15) (by kernel_rfl) rfl (by rfl) (fun K hK => ?_)
          go_simp
          have hws := words_same (L.take M) ao2 ao3 cap2 cap3 V0 HQ6.out (fun j x hj => HW6.out j x (by rw [List.getElem?_take] at hj; split at hj; exact hj; cases hj)) (by rw [HML.out]; omega)
          rw [HML.out] at hws
          refine hws.mono ?_
          rintro e w6 ⟨rfl, hn6⟩
          have s1 : w6.cell? ⟨rb, 0, none⟩ = some (.slice ao3 N cap3) := (hn6.cell hz0 id _).trans s0'
          have HN7 := Lib.hid (HN6.out.trans hn6)
          have hz1 := hn6.size
          refine hK.out _ _ s1 ?_
          clear hK K hws hn6 HN6 HQ6 HW6 s0'
          refine wpAnyH_take (i := 16) (v := ?_) rfl (by kernel_rfl) (by kernel_rfl) (by kernel_rfl) (fun _ _ _ h => h) (Or.inl ⟨by rfl, ?_⟩) s1 ?_
          rotate_left
          · intro w hSw; first | (obtain ⟨s1, s2, s3⟩ := hSw; go_simp; rfl) | (obtain ⟨s1, s2⟩ := hSw; go_simp; rfl) | (have s1 := hSw; go_simp; rfl)
          go_simp
          refine wpAnyH_take (i := 17) (v := ?_) rfl (by kernel_rfl) (by kernel_rfl) (by kernel_rfl) (fun _ _ _ h => h) (Or.inl ⟨by rfl, ?_⟩) s1 ?_
          rotate_left
          · intro w hSw; first | (obtain ⟨s1, s2, s3⟩ := hSw; go_simp; rfl) | (obtain ⟨s1, s2⟩ := hSw; go_simp; rfl) | (have s1 := hSw; go_simp; rfl)
          go_simp
          refine heldOne (i := 18) (by kernel_rfl) rfl (by rfl) (fun K hK => ?_)
          go_simp
          refine (awake_any w6 (HG.out.keep HN7.out id)).mono ?_
          rintro e w7 ⟨rfl, hn7⟩
          have s2 : w7.cell? ⟨rb, 0, none⟩ = some (.slice ao3 N cap3) := (hn7.cell (by omega) id _).trans s1
          have HN8 := Lib.hid (HN7.out.trans hn7)
          refine hK.out _ _ s2 ?_
          clear hK K hn7 HN7 s1
          refine wpAnyH_take (i := 19) (v := ?_) rfl (by kernel_rfl) (by kernel_rfl) (by kernel_rfl) (fun _ _ _ h => h) (Or.inl ⟨by rfl, ?_⟩) s2 ?_
          rotate_left
          · intro w hSw; first | (obtain ⟨s1, s2, s3⟩ := hSw; go_simp; rfl) | (obtain ⟨s1, s2⟩ := hSw; go_simp; rfl) | (have s1 := hSw; go_simp; rfl)
          go_simp
          refine wpAnyH_take (i := 20) (v := ?_) rfl (by kernel_rfl) (by kernel_rfl) (by kernel_rfl) (fun _ _ _ h => h) (Or.inl ⟨by rfl, ?_⟩) s2 ?_
          rotate_left
          · intro w hSw; first | (obtain ⟨s1, s2, s3⟩ := hSw; go_simp; rfl) | (obtain ⟨s1, s2⟩ := hSw; go_simp; rfl) | (have s1 := hSw; go_simp; rfl)
          go_simp
          refine wpAnyH_done (by kernel_rfl) ?_ _
          clear s2
          go_wp2
          go_ret
          exact ⟨rfl, HN8.out⟩
        · have hml : (L.take M).length = N := by rw [HMI.out]; omega
          have HML := Lib.hid hml
          rw [hml]
          clear hml
          have q2 : (N : Int) ≤ (cap3 : Int) := by omega
          have q3 : (0 : Int) ≤ (N : Int) := by omega
          go_wp2_with fail
          refine heldStart (fun W1 => W1.cell? ⟨rb, 0, none⟩ = some (.slice ao3 N cap3)) (by kernel_rfl) ?_
          refine wpAnyH_take (i := 0) (v := ?_) rfl (by kernel_rfl) (by kernel_rfl) (by kernel_rfl) (fun _ _ _ h => h) (Or.inl ⟨by rfl, ?_⟩) s0' ?_
          rotate_left
          · intro w hSw; first | (obtain ⟨s1, s2, s3⟩ := hSw; go_simp; rfl) | (obtain ⟨s1, s2⟩ := hSw; go_simp; rfl) | (have s1 := hSw; go_simp; rfl)
          go_simp
          refine wpAnyH_take (i := 1) (v := ?_) rfl (by kernel_rfl) (by kernel_rfl) (by kernel_rfl) (fun _ _ _ h => h) (Or.inl ⟨by rfl, ?_⟩) s0' ?_
          rotate_left
          · intro w hSw; first | (obtain ⟨s1, s2, s3⟩ := hSw; go_simp; rfl) | (obtain ⟨s1, s2⟩ := hSw; go_simp; rfl) | (have s1 := hSw; go_simp; rfl)
          go_simp
          refine wpAnyH_take (i := 2) (v := ?_) rfl (by kernel_rfl) (by kernel_rfl) (by kernel_rfl) (fun _ _ _ h => h) (Or.inl ⟨by rfl, ?_⟩) s0' ?_
          rotate_left
          · intro w hSw; first | (obtain ⟨s1, s2, s3⟩ := hSw; go_simp; rfl) | (obtain ⟨s1, s2⟩ := hSw; go_simp; rfl) | (have s1 := hSw; go_simp; rfl)
          go_simp
          refine wpAnyH_take (i := 3) (v := ?_) rfl (by kernel_rfl) (by kernel_rfl) (by kernel_rfl) (fun _ _ _ h => h) (Or.inl ⟨by rfl, ?_⟩) s0' ?_
          rotate_left
          · intro w hSw; first | (obtain ⟨s1, s2, s3⟩ := hSw; go_simp; rfl) | (obtain ⟨s1, s2⟩ := hSw; go_simp; rfl) | (have s1 := hSw; go_simp; rfl)
          go_simp
          refine wpAnyH_take (i := 4) (v := ?_) rfl (by kernel_rfl) (by kernel_rfl) (by kernel_rfl) (fun _ _ _ h => h) (Or.inl ⟨by rfl, ?_⟩) s0' ?_
          rotate_left
          · intro w hSw; first | (obtain ⟨s1, s2, s3⟩ := hSw; go_simp; rfl) | (obtain ⟨s1, s2⟩ := hSw; go_simp; rfl) | (have s1 := hSw; go_simp; rfl)
          go_simp
          refine wpAnyH_take (i := 5) (v := ?_) rfl (by kernel_rfl) (by kernel_rfl) (by kernel_rfl) (fun _ _ _ h => h) (Or.inl ⟨by rfl, ?_⟩) s0' ?_
          rotate_left
          · intro w hSw; first | (obtain ⟨s1, s2, s3⟩ := hSw; go_simp; rfl) | (obtain ⟨s1, s2⟩ := hSw; go_simp; rfl) | (have s1 := hSw; go_simp; rfl)
          go_simp
          refine wpAnyH_take (i := 6) (v := ?_) rfl (by kernel_rfl) (by kernel_rfl) (by kernel_rfl) (fun _ _ _ h => h) (Or.inl ⟨by rfl, ?_⟩) s0' ?_
          rotate_left
          · intro w hSw; first | (obtain ⟨s1, s2, s3⟩ := hSw; go_simp; rfl) | (obtain ⟨s1, s2⟩ := hSw; go_simp; rfl) | (have s1 := hSw; go_simp; rfl)
          go_simp
          refine wpAnyH_take (i := 7) (v := ?_) rfl (by kernel_rfl) (by kernel_rfl) (by kernel_rfl) (fun _ _ _ h => h) (Or.inl ⟨by rfl, ?_⟩) s0' ?_
          rotate_left
          · intro w hSw; first | (obtain ⟨s1, s2, s3⟩ := hSw; go_simp; rfl) | (obtain ⟨s1, s2⟩ := hSw; go_simp; rfl) | (have s1 := hSw; go_simp; rfl)
          go_simp
          refine wpAnyH_take (i := 8) (v := ?_) rfl (by kernel_rfl) (by kernel_rfl) (by kernel_rfl) (fun _ _ _ h => h) (Or.inl ⟨by rfl, ?_⟩) s0' ?_
          rotate_left
          · intro w hSw; first | (obtain ⟨s1, s2, s3⟩ := hSw; go_simp; rfl) | (obtain ⟨s1, s2⟩ := hSw; go_simp; rfl) | (have s1 := hSw; go_simp; rfl)
          go_simp
          refine wpAnyH_take (i := 9) (v := ?_) rfl (by kernel_rfl) (by kernel_rfl) (by kernel_rfl) (fun _ _ _ h => h) (Or.inl ⟨by rfl, ?_⟩) s0' ?_
          rotate_left
          · intro w hSw; first | (obtain ⟨s1, s2, s3⟩ := hSw; go_simp; rfl) | (obtain ⟨s1, s2⟩ := hSw; go_simp; rfl) | (have s1 := hSw; go_simp; rfl)
          go_simp
          refine wpAnyH_take (i := 10) (v := ?_) rfl (by kernel_rfl) (by kernel_rfl) (by kernel_rfl) (fun _ _ _ h => h) (Or.inl ⟨by rfl, ?_⟩) s0' ?_
          rotate_left
          · intro w hSw; first | (obtain ⟨s1, s2, s3⟩ := hSw; go_simp; rfl) | (obtain ⟨s1, s2⟩ := hSw; go_simp; rfl) | (have s1 := hSw; go_simp; rfl)
          go_simp
          refine wpAnyH_take (i := 11) (v := ?_) rfl (by kernel_rfl) (by kernel_rfl) (by kernel_rfl) (fun _ _ _ h => h) (Or.inl ⟨by rfl, ?_⟩) s0' ?_
          rotate_left
          · intro w hSw; first | (obtain ⟨s1, s2, s3⟩ := hSw; go_simp; rfl) | (obtain ⟨s1, s2⟩ := hSw; go_simp; rfl) | (have s1 := hSw; go_simp; rfl)
          go_simp
          refine wpAnyH_take (i := 12) (v := ?_) rfl (by kernel_rfl) (by kernel_rfl) (by kernel_rfl) (fun _ _ _ h => h) (Or.inl ⟨by rfl, ?_⟩) s0' ?_
          rotate_left
          · intro w hSw; first | (obtain ⟨s1, s2, s3⟩ := hSw; go_simp; rfl) | (obtain ⟨s1, s2⟩ := hSw; go_simp; rfl) | (have s1 := hSw; go_simp; rfl)
          go_simp
          refine wpAnyH_take (i := 13) (v := ?_) rfl (by kernel_rfl) (by kernel_rfl) (by kernel_rfl) (fun _ _ _ h => h) (Or.inl ⟨by rfl, ?_⟩) s0' ?_
          rotate_left
          · intro w hSw; first | (obtain ⟨s1, s2, s3⟩ := hSw; go_simp; rfl) | (obtain ⟨s1, s2⟩ := hSw; go_simp; rfl) | (have s1 := hSw; go_simp; rfl)
          go_simp
          refine wpAnyH_take (i := 14) (v := ?_) rfl (by kernel_rfl) (by kernel_rfl) (by kernel_rfl) (fun _ _ _ h => h) (Or.inl ⟨by rfl, ?_⟩) s0' ?_
          rotate_left
          · intro w hSw; first | (obtain ⟨s1, s2, s3⟩ := hSw; go_simp; rfl) | (obtain ⟨s1, s2⟩ := hSw; go_simp; rfl) | (have s1 := hSw; go_simp; rfl)
          go_simp
          have hsl := HRW3.out
          have hd0 : New w5 w5.drew := (Fr.refl _ _).drew
          have HN6 := Lib.hid (HN5.out.trans hd0)
          have HQ6 := Lib.hid (HR5.out.keep hd0 (fun _ h => h.elim)).nats
          have HW6 := Lib.hid (HRW3.out.keep hd0 (fun _ h => h.elim)).nats
          have hz0 : rb < w5.drew.heap.size := hrlt
          clear hd0 HN5 HR5 HRW3 hsl
          generalize w5.drew = V0 at HN6 HQ6 HW6 s0' hz0 ⊢
          refine heldOne (i := 15) (by kernel_rfl) rfl (by rfl) (fun K hK => ?_)
          go_simp
          have hws := words_same (L.take M) ao2 ao3 cap2 cap3 V0 HQ6.out (fun j x hj => HW6.out j x (by rw [List.getElem?_take] at hj; split at hj; exact hj; cases hj)) (by rw [HML.out]; omega)
          rw [HML.out] at hws
          refine hws.mono ?_
          rintro e w6 ⟨rfl, hn6⟩
          have s1 : w6.cell? ⟨rb, 0, none⟩ = some (.slice ao3 N cap3) := (hn6.cell hz0 id _).trans s0'
          have HN7 := Lib.hid (HN6.out.trans hn6)
          have hz1 := hn6.size
          refine hK.out _ _ s1 ?_
          clear hK K hws hn6 HN6 HQ6 HW6 s0'
          refine wpAnyH_take (i := 16) (v := ?_) rfl (by kernel_rfl) (by kernel_rfl) (by kernel_rfl) (fun _ _ _ h => h) (Or.inl ⟨by rfl, ?_⟩) s1 ?_
          rotate_left
          · intro w hSw; first | (obtain ⟨s1, s2, s3⟩ := hSw; go_simp; rfl) | (obtain ⟨s1, s2⟩ := hSw; go_simp; rfl) | (have s1 := hSw; go_simp; rfl)
          go_simp
          refine wpAnyH_take (i := 17) (v := ?_) rfl (by kernel_rfl) (by kernel_rfl) (by kernel_rfl) (fun _ _ _ h => h) (Or.inl ⟨by rfl, ?_⟩) s1 ?_
          rotate_left
          · intro w hSw; first | (obtain ⟨s1, s2, s3⟩ := hSw; go_simp; rfl) | (obtain ⟨s1, s2⟩ := hSw; go_simp; rfl) | (have s1 := hSw; go_simp; rfl)
          go_simp
          refine heldOne (i := 18) (by kernel_rfl) rfl (by rfl) (fun K hK => ?_)
          go_simp
          refine (awake_any w6 (HG.out.keep HN7.out id)).mono ?_
          rintro e w7 ⟨rfl, hn7⟩
          have s2 : w7.cell? ⟨rb, 0, none⟩ = some (.slice ao3 N cap3) := (hn7.cell (by omega) id _).trans s1
          have HN8 := Lib.hid (HN7.out.trans hn7)
          refine hK.out _ _ s2 ?_
          clear hK K hn7 HN7 s1
          refine wpAnyH_take (i := 19) (v := ?_) rfl (by kernel_rfl) (by kernel_rfl) (by kernel_rfl) (fun _ _ _ h => h) (Or.inl ⟨by rfl, ?_⟩) s2 ?_
          rotate_left
          · intro w hSw; first | (obtain ⟨s1, s2, s3⟩ := hSw; go_simp; rfl) | (obtain ⟨s1, s2⟩ := hSw; go_simp; rfl) | (have s1 := hSw; go_simp; rfl)
          go_simp
          refine wpAnyH_take (i := 20) (v := ?_) rfl (by kernel_rfl) (by kernel_rfl) (by kernel_rfl) (fun _ _ _ h => h) (Or.inl ⟨by rfl, ?_⟩) s2 ?_
          rotate_left
          · intro w hSw; first | (obtain ⟨s1, s2, s3⟩ := hSw; go_simp; rfl) | (obtain ⟨s1, s2⟩ := hSw; go_simp; rfl) | (have s1 := hSw; go_simp; rfl)
          go_simp
          refine wpAnyH_done (by kernel_rfl) ?_ _
          clear s2
          go_wp2
          go_ret
          exact ⟨rfl, HN8.out⟩

end Go.Proofs.YtgjogiddpfnamaaDoor
