/- One call at both memories: they answer alike. -/
import Derived.Test.YtfppipbdmjnbcaaDoorMemM
import Derived.Test.YtfppipbdmjnbcaaDoorWithin
namespace Go.Proofs.YtfppipbdmjnbcaaDoor
open Go.RowKit

theorem cnt_set : ∀ (l : List Nat) (i x : Nat), i < l.length → cnt (l.set i x) + (if l.getD i 0 != 0 then 1 else 0) = cnt l + (if x != 0 then 1 else 0)
  | [], i, x, h => by simp at h
  | a :: l, 0, x, h => by unfold cnt; simp [List.countP_cons]; omega
  | a :: l, i + 1, x, h => by
    have := cnt_set l i x (by simpa using h)
    unfold cnt at this ⊢
    simp only [List.set_cons_succ, List.countP_cons, List.getD_cons_succ]
    omega
theorem getD_fill {ws : List Nat} {a m V i : Nat} (hi : i < ws.length) (h : ¬ (a ≤ i ∧ i < a + m)) : (fill ws a m V).getD i 0 = ws.getD i 0 := by
  rw [List.getD_eq_getElem?_getD, fill_get _ _ _ _ _ hi, if_neg h]; rfl
theorem cnt_up (ws : List Nat) (a V : Nat) (hV : V ≠ 0) : ∀ m, a + m ≤ ws.length → (∀ i, a ≤ i → i < a + m → (ws.getD i 0 != 0) = false) → cnt (fill ws a m V) = cnt ws + m
  | 0, _, _ => by rw [fill_zero]; rfl
  | m + 1, hl, h => by
    have h1 := cnt_up ws a V hV m (by omega) (fun i h1 h2 => h i h1 (by omega))
    have h2 := cnt_set (fill ws a m V) (a + m) V (by rw [fill_len]; omega)
    rw [fill_succ, getD_fill (by omega) (by omega), h (a + m) (by omega) (by omega)] at h2
    have : (V != 0) = true := by simpa using hV
    rw [this] at h2
    simp at h2; omega
theorem cnt_down (ws : List Nat) (a : Nat) : ∀ m, a + m ≤ ws.length → (∀ i, a ≤ i → i < a + m → (ws.getD i 0 != 0) = true) → cnt (fill ws a m 0) + m = cnt ws
  | 0, _, _ => by rw [fill_zero]; rfl
  | m + 1, hl, h => by
    have h1 := cnt_down ws a m (by omega) (fun i h1 h2 => h i h1 (by omega))
    have h2 := cnt_set (fill ws a m 0) (a + m) 0 (by rw [fill_len]; omega)
    rw [fill_succ, getD_fill (by omega) (by omega), h (a + m) (by omega) (by omega)] at h2
    simp at h2; omega
theorem cnt_le (ws : List Nat) : cnt ws ≤ ws.length := List.countP_le_length

theorem map_cnt {ws : List Nat} {at_ n W : Int} (h : mapErr ws at_ n W = none) : ((cnt ws : Nat) : Int) + n = (cnt (fill ws at_.toNat n.toNat W.toNat) : Nat) ∧ 1 ≤ n := by
  unfold mapErr at h
  split at h
  · cases h
  · obtain ⟨a, m, rfl, rfl, h1, hl, hz⟩ := rowErr_none h (by omega)
    have := cnt_up ws a W.toNat (by omega) m hl hz
    simp only [Int.toNat_natCast]; omega
theorem unmap_cnt {ws : List Nat} {at_ n : Int} (h : unmapErr ws at_ n = none) : ((cnt (fill ws at_.toNat n.toNat 0) : Nat) : Int) + n = (cnt ws : Nat) ∧ 1 ≤ n := by
  unfold unmapErr at h
  split at h
  · cases h
  · obtain ⟨a, m, rfl, rfl, h1, hl, hz⟩ := rowErr_none h (by omega)
    have := cnt_down ws a m hl hz
    simp only [Int.toNat_natCast]; omega

/-- Both memories hold the same. -/
structure Sync (w : World) (b cb wb rb rwb rhb : Nat) (cs ws : List Nat) (ct : Nat) : Prop where
  m : MemRep w b cb wb cs ws (cnt ws) ct
  r : RefRep w rb rwb rhb cs ws ct
  ab : b ≠ rb ∧ b ≠ rwb ∧ b ≠ rhb
  ac : cb ≠ rb ∧ cb ≠ rwb ∧ cb ≠ rhb
  aw : wb ≠ rb ∧ wb ≠ rwb ∧ wb ≠ rhb
def Six (b cb wb rb rwb rhb k : Nat) : Prop := (k = b ∨ k = cb ∨ k = wb) ∨ (k = rb ∨ k = rwb ∨ k = rhb)
theorem Sync.keep {w w' : World} {b cb wb rb rwb rhb : Nat} {cs ws : List Nat} {ct : Nat} {S : Nat → Prop} (h : Sync w b cb wb rb rwb rhb cs ws ct) (f : Fr S w w') (hs : ∀ k, Six b cb wb rb rwb rhb k → ¬ S k) : Sync w' b cb wb rb rwb rhb cs ws ct :=
  ⟨h.m.keep f (hs _ (.inl (.inl rfl))) (hs _ (.inl (.inr (.inl rfl)))) (hs _ (.inl (.inr (.inr rfl)))), h.r.keep f (hs _ (.inr (.inl rfl))) (hs _ (.inr (.inr (.inl rfl)))) (hs _ (.inr (.inr (.inr rfl)))), h.ab, h.ac, h.aw⟩
/-- What one call leaves. -/
def Synced (w : World) (b cb wb rb rwb rhb n ct : Nat) : Prop := ∃ cs ws ct', Sync w b cb wb rb rwb rhb cs ws ct' ∧ ws.length = n ∧ ct' ≤ ct + 1

theorem Synced.keep {w w' : World} {b cb wb rb rwb rhb n ct : Nat} {S : Nat → Prop} (h : Synced w b cb wb rb rwb rhb n ct) (f : Fr S w w') (hs : ∀ k, Six b cb wb rb rwb rhb k → ¬ S k) : Synced w' b cb wb rb rwb rhb n ct := by
  obtain ⟨cs, ws, ct', h1, h2, h3⟩ := h
  exact ⟨cs, ws, ct', h1.keep f hs, h2, h3⟩

section
variable {b cb wb rb rwb rhb : Nat} {cs ws : List Nat} {ct : Nat}
theorem map_synced {w : World} {at_ n W : Int} (ha : b ≠ rb ∧ b ≠ rwb ∧ b ≠ rhb) (hc : cb ≠ rb ∧ cb ≠ rwb ∧ cb ≠ rhb) (hw : wb ≠ rb ∧ wb ≠ rwb ∧ wb ≠ rhb) {t : Nat} (ht : t = cnt ws)
    (h1 : if mapErr ws at_ n W = none then ∃ th', MemRep w b cb wb (fill cs at_.toNat n.toNat 0) (fill ws at_.toNat n.toNat W.toNat) th' ct ∧ th' = t + n.toNat else MemRep w b cb wb cs ws t ct)
    (h2 : if mapErr ws at_ n W = none then RefRep w rb rwb rhb (fill cs at_.toNat n.toNat 0) (fill ws at_.toNat n.toNat W.toNat) ct else RefRep w rb rwb rhb cs ws ct) : Synced w b cb wb rb rwb rhb ws.length ct := by
  subst ht
  by_cases he : mapErr ws at_ n W = none
  · rw [if_pos he] at h1 h2
    obtain ⟨th, h3, h4⟩ := h1
    have := map_cnt he
    obtain rfl : th = cnt (fill ws at_.toNat n.toNat W.toNat) := by omega
    exact ⟨_, _, ct, ⟨h3, h2, ha, hc, hw⟩, fill_len _ _ _ _, by omega⟩
  · rw [if_neg he] at h1 h2
    exact ⟨_, _, ct, ⟨h1, h2, ha, hc, hw⟩, rfl, by omega⟩
theorem unmap_synced {w : World} {at_ n : Int} (ha : b ≠ rb ∧ b ≠ rwb ∧ b ≠ rhb) (hc : cb ≠ rb ∧ cb ≠ rwb ∧ cb ≠ rhb) (hw : wb ≠ rb ∧ wb ≠ rwb ∧ wb ≠ rhb) {t : Nat} (ht : t = cnt ws)
    (h1 : if unmapErr ws at_ n = none then ∃ th', MemRep w b cb wb (fill cs at_.toNat n.toNat 0) (fill ws at_.toNat n.toNat 0) th' ct ∧ th' = t - n.toNat else MemRep w b cb wb cs ws t ct)
    (h2 : if unmapErr ws at_ n = none then RefRep w rb rwb rhb (fill cs at_.toNat n.toNat 0) (fill ws at_.toNat n.toNat 0) ct else RefRep w rb rwb rhb cs ws ct) : Synced w b cb wb rb rwb rhb ws.length ct := by
  subst ht
  by_cases he : unmapErr ws at_ n = none
  · rw [if_pos he] at h1 h2
    obtain ⟨th, h3, h4⟩ := h1
    have := unmap_cnt he
    obtain rfl : th = cnt (fill ws at_.toNat n.toNat 0) := by omega
    exact ⟨_, _, ct, ⟨h3, h2, ha, hc, hw⟩, fill_len _ _ _ _, by omega⟩
  · rw [if_neg he] at h1 h2
    exact ⟨_, _, ct, ⟨h1, h2, ha, hc, hw⟩, rfl, by omega⟩
end

theorem acc_lt {cs ws : List Nat} (h : ∀ x ∈ cs, x < 18446744073709551616) (p : Nat) : accVal cs ws p < 18446744073709551616 := by
  unfold accVal
  split
  · omega
  · rcases Nat.lt_or_ge p cs.length with hh | hh
    · rw [List.getD_eq_getElem?_getD, List.getElem?_eq_getElem hh]; exact h _ (List.getElem_mem hh)
    · rw [List.getD_eq_getElem?_getD, List.getElem?_eq_none hh]; decide
theorem laid_load (cs ws : List Nat) (p o v : Nat) : accCs 0 cs ws p 0 0 = accCs 0 cs ws p o v := rfl
theorem laid_swap (cs ws : List Nat) (p o v : Nat) : accCs 2 cs ws p 0 v = accCs 2 cs ws p o v := rfl
theorem laid_add (cs ws : List Nat) (p o v : Nat) : accCs 3 cs ws p 0 v = accCs 3 cs ws p o v := rfl
theorem laid_store (cs ws : List Nat) (p o v : Nat) : accCs 1 cs ws p 0 v = accCs 1 cs ws p o v := rfl

set_option maxRecDepth 100000 in
set_option maxHeartbeats 4000000 in
theorem do_map (b cb wb rb rwb rhb : Nat) (cs ws : List Nat) (ct : Nat) (d at_ n W : Int) (A o v : Nat) (w : World) (hg : Laid w) (h : Sync w b cb wb rb rwb rhb cs ws ct) (hd : -9223372036854775808 ≤ d ∧ d ≤ 9223372036854775807) (hq : d % 9 = 0)
    (hat : -9223372036854775808 ≤ at_ ∧ at_ ≤ 9223372036854775807) (hn : -9223372036854775808 ≤ n ∧ n ≤ 9223372036854775807) (hgl : ∀ k, Six b cb wb rb rwb rhb k → k ≠ 0) :
    Calls Tryd.prog 21 #[.pointer (some ⟨b, 0, none⟩), .pointer (some ⟨rb, 0, none⟩), .agg #[.int .i64 d, .int .i64 at_, .int .i64 n, .int .i64 W, .int .u64 A, .int .u64 o, .int .u64 v]] w fun e w' => e = .returned (.bool true) ∧
      Synced w' b cb wb rb rwb rhb ws.length ct ∧ Fr (Six b cb wb rb rwb rhb) w w' := by
  have hwi := fun w => within_any d 9 w (by omega) (by omega) hd.1 hd.2
  rw [hq] at hwi
  have HWI := Lib.hid hwi
  have H := Lib.hid h
  have HG := Lib.hid hg
  have hlen := h.r.len.2
  have hbl := h.m.hd.lt
  have hcl := h.m.cells.lt
  have hwl := h.m.widths.lt
  have hrl := h.r.hd.lt
  have hrwl := h.r.widths.lt
  have hrhl := h.r.holds.lt
  have hab := h.ab
  have hac := h.ac
  have haw := h.aw
  have HTH := Lib.hid (show (mapErr ws at_ n W) = none → ((cnt ws : Nat) : Int) + n ≤ 10000000 from (fun he => by have := map_cnt he; have := cnt_le (fill ws at_.toNat n.toNat W.toNat); rw [fill_len] at this; omega))
  clear hwi hq h hg
  go_enter Tryd.func21, Tryd.ntmps21
  go_wp2_with fail
  obtain ⟨W0, hW0⟩ : ∃ W0, w.alloc (.cells #[.int .i64 d, .int .i64 at_, .int .i64 n, .int .i64 W, .int .u64 A, .int .u64 o, .int .u64 v] 50) = W0 := ⟨_, rfl⟩
  have hx0 : Arr W0 w.heap.size [.int .i64 d, .int .i64 at_, .int .i64 n, .int .i64 W, .int .u64 A, .int .u64 o, .int .u64 v] := by rw [← hW0]; exact Arr.new _ _ _
  have hn0 : New w W0 := by rw [← hW0]; exact (Fr.refl _ _).alloc _
  have hxlt := hx0.lt
  rw [hW0]
  have x0 := hx0.cell 0 _ rfl
  have x1 := hx0.cell 1 _ rfl
  have x2 := hx0.cell 2 _ rfl
  have x3 := hx0.cell 3 _ rfl
  have HN0 := Lib.hid hn0
  have HS0 := Lib.hid (H.out.keep hn0 (fun _ _ => id))
  have HG0 := Lib.hid (HG.out.keep hn0 id)
  have hz0 : w.heap.size < W0.drew.heap.size := hxlt
  clear hx0 hn0 hW0 H HG
  go_wp2_with (go_at_call 16; refine (HWI.out _).mono ?_; rintro e w' ⟨rfl, rfl⟩)
  have S0 : W0.drew.cell? ⟨w.heap.size, 1, none⟩ = some (.int .i64 at_) ∧ W0.drew.cell? ⟨w.heap.size, 2, none⟩ = some (.int .i64 n) ∧ W0.drew.cell? ⟨w.heap.size, 3, none⟩ = some (.int .i64 W) := ⟨x1, x2, x3⟩
  refine heldStart (fun W1 => W1.cell? ⟨w.heap.size, 1, none⟩ = some (.int .i64 at_) ∧ W1.cell? ⟨w.heap.size, 2, none⟩ = some (.int .i64 n) ∧ W1.cell? ⟨w.heap.size, 3, none⟩ = some (.int .i64 W)) (by kernel_rfl) ?_
  clear x0 x1 x2 x3
  refine wpAnyH_take (i := 0) (v := ?_) rfl (by kernel_rfl) (by kernel_rfl) (by kernel_rfl) (fun _ _ _ h => h) (Or.inl ⟨by rfl, ?_⟩) S0 ?_
  rotate_left
  · intro w hSw; first | (obtain ⟨s1, s2, s3⟩ := hSw; go_simp; rfl) | (obtain ⟨s1, s2⟩ := hSw; go_simp; rfl) | (have s1 := hSw; go_simp; rfl)
  refine wpAnyH_take (i := 1) (v := ?_) rfl (by kernel_rfl) (by kernel_rfl) (by kernel_rfl) (fun _ _ _ h => h) (Or.inl ⟨by rfl, ?_⟩) S0 ?_
  rotate_left
  · intro w hSw; first | (obtain ⟨s1, s2, s3⟩ := hSw; go_simp; rfl) | (obtain ⟨s1, s2⟩ := hSw; go_simp; rfl) | (have s1 := hSw; go_simp; rfl)
  refine wpAnyH_take (i := 2) (v := ?_) rfl (by kernel_rfl) (by kernel_rfl) (by kernel_rfl) (fun _ _ _ h => h) (Or.inl ⟨by rfl, ?_⟩) S0 ?_
  rotate_left
  · intro w hSw; first | (obtain ⟨s1, s2, s3⟩ := hSw; go_simp; rfl) | (obtain ⟨s1, s2⟩ := hSw; go_simp; rfl) | (have s1 := hSw; go_simp; rfl)
  refine wpAnyH_take (i := 3) (v := ?_) rfl (by kernel_rfl) (by kernel_rfl) (by kernel_rfl) (fun _ _ _ h => h) (Or.inl ⟨by rfl, ?_⟩) S0 ?_
  rotate_left
  · intro w hSw; first | (obtain ⟨s1, s2, s3⟩ := hSw; go_simp; rfl) | (obtain ⟨s1, s2⟩ := hSw; go_simp; rfl) | (have s1 := hSw; go_simp; rfl)
  refine wpAnyH_take (i := 4) (v := ?_) rfl (by kernel_rfl) (by kernel_rfl) (by kernel_rfl) (fun _ _ _ h => h) (Or.inl ⟨by rfl, ?_⟩) S0 ?_
  rotate_left
  · intro w hSw; first | (obtain ⟨s1, s2, s3⟩ := hSw; go_simp; rfl) | (obtain ⟨s1, s2⟩ := hSw; go_simp; rfl) | (have s1 := hSw; go_simp; rfl)
  refine wpAnyH_take (i := 5) (v := ?_) rfl (by kernel_rfl) (by kernel_rfl) (by kernel_rfl) (fun _ _ _ h => h) (Or.inl ⟨by rfl, ?_⟩) S0 ?_
  rotate_left
  · intro w hSw; first | (obtain ⟨s1, s2, s3⟩ := hSw; go_simp; rfl) | (obtain ⟨s1, s2⟩ := hSw; go_simp; rfl) | (have s1 := hSw; go_simp; rfl)
  refine wpAnyH_take (i := 6) (v := ?_) rfl (by kernel_rfl) (by kernel_rfl) (by kernel_rfl) (fun _ _ _ h => h) (Or.inl ⟨by rfl, ?_⟩) S0 ?_
  rotate_left
  · intro w hSw; first | (obtain ⟨s1, s2, s3⟩ := hSw; go_simp; rfl) | (obtain ⟨s1, s2⟩ := hSw; go_simp; rfl) | (have s1 := hSw; go_simp; rfl)
  refine wpAnyH_take (i := 8) (v := ?_) rfl (by kernel_rfl) (by kernel_rfl) (by kernel_rfl) (fun _ _ _ h => h) (Or.inl ⟨by rfl, ?_⟩) S0 ?_
  rotate_left
  · intro w hSw; first | (obtain ⟨s1, s2, s3⟩ := hSw; go_simp; rfl) | (obtain ⟨s1, s2⟩ := hSw; go_simp; rfl) | (have s1 := hSw; go_simp; rfl)
  refine wpAnyH_take (i := 9) (v := ?_) rfl (by kernel_rfl) (by kernel_rfl) (by kernel_rfl) (fun _ _ _ h => h) (Or.inl ⟨by rfl, ?_⟩) S0 ?_
  rotate_left
  · intro w hSw; first | (obtain ⟨s1, s2, s3⟩ := hSw; go_simp; rfl) | (obtain ⟨s1, s2⟩ := hSw; go_simp; rfl) | (have s1 := hSw; go_simp; rfl)
  refine wpAnyH_take (i := 10) (v := ?_) rfl (by kernel_rfl) (by kernel_rfl) (by kernel_rfl) (fun _ _ _ h => h) (Or.inl ⟨by rfl, ?_⟩) S0 ?_
  rotate_left
  · intro w hSw; first | (obtain ⟨s1, s2, s3⟩ := hSw; go_simp; rfl) | (obtain ⟨s1, s2⟩ := hSw; go_simp; rfl) | (have s1 := hSw; go_simp; rfl)
  refine wpAnyH_take (i := 11) (v := ?_) rfl (by kernel_rfl) (by kernel_rfl) (by kernel_rfl) (fun _ _ _ h => h) (Or.inl ⟨by rfl, ?_⟩) S0 ?_
  rotate_left
  · intro w hSw; first | (obtain ⟨s1, s2, s3⟩ := hSw; go_simp; rfl) | (obtain ⟨s1, s2⟩ := hSw; go_simp; rfl) | (have s1 := hSw; go_simp; rfl)
  refine wpAnyH_take (i := 12) (v := ?_) rfl (by kernel_rfl) (by kernel_rfl) (by kernel_rfl) (fun _ _ _ h => h) (Or.inl ⟨by rfl, ?_⟩) S0 ?_
  rotate_left
  · intro w hSw; first | (obtain ⟨s1, s2, s3⟩ := hSw; go_simp; rfl) | (obtain ⟨s1, s2⟩ := hSw; go_simp; rfl) | (have s1 := hSw; go_simp; rfl)
  refine wpAnyH_take (i := 13) (v := ?_) rfl (by kernel_rfl) (by kernel_rfl) (by kernel_rfl) (fun _ _ _ h => h) (Or.inl ⟨by rfl, ?_⟩) S0 ?_
  rotate_left
  · intro w hSw; first | (obtain ⟨s1, s2, s3⟩ := hSw; go_simp; rfl) | (obtain ⟨s1, s2⟩ := hSw; go_simp; rfl) | (have s1 := hSw; go_simp; rfl)
  refine wpAnyH_take (i := 14) (v := ?_) rfl (by kernel_rfl) (by kernel_rfl) (by kernel_rfl) (fun _ _ _ h => h) (Or.inl ⟨by rfl, ?_⟩) S0 ?_
  rotate_left
  · intro w hSw; first | (obtain ⟨s1, s2, s3⟩ := hSw; go_simp; rfl) | (obtain ⟨s1, s2⟩ := hSw; go_simp; rfl) | (have s1 := hSw; go_simp; rfl)
  have HD := Lib.hid (HS0.out.keep ((Fr.refl (fun _ => False) W0).drew) (fun _ _ => id))
  have HND := Lib.hid (HN0.out.drew)
  have HGD := Lib.hid (show Laid W0.drew from HG0.out)
  clear HS0 HN0 HG0 HWI
  generalize W0.drew = V0 at HD HND HGD S0 hz0 ⊢
  refine heldOne (i := 7) (by kernel_rfl) rfl (by rfl) (fun K hK => ?_)
  go_simp
  refine (map_any b cb wb cs ws (cnt ws) ct at_ n W V0 HD.out.m hat.2 HTH.out).mono ?_
  rintro e w1 ⟨x, rfl, hx, hr, hf⟩
  have s1 : w1.cell? ⟨w.heap.size, 1, none⟩ = some (.int .i64 at_) ∧ w1.cell? ⟨w.heap.size, 2, none⟩ = some (.int .i64 n) ∧ w1.cell? ⟨w.heap.size, 3, none⟩ = some (.int .i64 W) :=
    ⟨(hf.cell hz0 (by omega) _).trans S0.1, (hf.cell hz0 (by omega) _).trans S0.2.1, (hf.cell hz0 (by omega) _).trans S0.2.2⟩
  have hz1 := hf.size
  refine hK.out _ _ s1 ?_
  clear hK K
  refine heldOne (i := 15) (by kernel_rfl) rfl (by rfl) (fun K hK => ?_)
  go_simp
  refine (rmap_any rb rwb rhb cs ws ct at_ n W w1 (HD.out.r.keep hf (by omega) (by omega) (by omega)) hn.2 hat.2).mono ?_
  rintro e w2 ⟨f, rfl, hfl, hr2, hf2⟩
  have hx2 := Says.keepIf hf2 hx
  have hm2 : if (mapErr ws at_ n W) = none then ∃ th', MemRep w2 b cb wb (fill cs at_.toNat n.toNat 0) (fill ws at_.toNat n.toNat W.toNat) th' ct ∧ th' = cnt ws + n.toNat else MemRep w2 b cb wb cs ws (cnt ws) ct := by
    split
    · rename_i he
      rw [if_pos he] at hr
      obtain ⟨th, h1, h2⟩ := hr
      exact ⟨th, h1.keep hf2 (by omega) (by omega) (by omega), h2⟩
    · rename_i he
      rw [if_neg he] at hr
      exact hr.keep hf2 (by omega) (by omega) (by omega)
  have hsy := map_synced hab hac haw rfl hm2 hr2
  have hfr : Fr (fun k => Six b cb wb rb rwb rhb k) w w2 := ((HND.out.mono (fun _ _ h => h.elim)).trans (hf.mono (fun _ _ h => .inl h.2))).trans (hf2.mono (fun _ _ h => .inr (h.2.elim (fun e => .inr (.inl e)) (fun e => .inr (.inr e)))))
  have s2 : w2.cell? ⟨w.heap.size, 1, none⟩ = some (.int .i64 at_) ∧ w2.cell? ⟨w.heap.size, 2, none⟩ = some (.int .i64 n) ∧ w2.cell? ⟨w.heap.size, 3, none⟩ = some (.int .i64 W) :=
    ⟨(hf2.cell (by omega) (by omega) _).trans s1.1, (hf2.cell (by omega) (by omega) _).trans s1.2.1, (hf2.cell (by omega) (by omega) _).trans s1.2.2⟩
  have hg2 : Laid w2 := (HGD.out.keep hf (fun h => hgl _ (.inl h.2) rfl)).keep hf2 (fun h => hgl _ (.inr (h.2.elim (fun e => .inr (.inl e)) (fun e => .inr (.inr e)))) rfl)
  have hz2 := hf2.size
  refine hK.out _ _ s2 ?_
  clear hK K hx hr hm2 hr2 s1
  refine heldOne (i := 16) (by kernel_rfl) rfl (by rfl) (fun K hK => ?_)
  go_simp
  refine (same_says x f memL _ w2 hg2 hx2 hfl).mono ?_
  rintro e w3 ⟨rfl, hn3⟩
  have s3 : w3.cell? ⟨w.heap.size, 1, none⟩ = some (.int .i64 at_) ∧ w3.cell? ⟨w.heap.size, 2, none⟩ = some (.int .i64 n) ∧ w3.cell? ⟨w.heap.size, 3, none⟩ = some (.int .i64 W) :=
    ⟨(hn3.cell (by omega) id _).trans s2.1, (hn3.cell (by omega) id _).trans s2.2.1, (hn3.cell (by omega) id _).trans s2.2.2⟩
  have HSY := Lib.hid (hsy.keep hn3 (fun _ _ => id))
  have HFR := Lib.hid (hfr.trans (hn3.mono (fun _ _ h => h.elim)))
  refine hK.out _ _ s3 ?_
  clear hK K hsy hfr hx2 hfl hg2 s2 hf hf2 hn3
  refine wpAnyH_take (i := 17) (v := ?_) rfl (by kernel_rfl) (by kernel_rfl) (by kernel_rfl) (fun _ _ _ h => h) (Or.inl ⟨by rfl, ?_⟩) s3 ?_
  rotate_left
  · intro w hSw; first | (obtain ⟨s1, s2, s3⟩ := hSw; go_simp; rfl) | (obtain ⟨s1, s2⟩ := hSw; go_simp; rfl) | (have s1 := hSw; go_simp; rfl)
  refine wpAnyH_done (by kernel_rfl) ?_ _
  clear s3
  go_wp2
  go_ret
  exact ⟨rfl, HSY.out, HFR.out⟩

set_option maxRecDepth 100000 in
set_option maxHeartbeats 4000000 in
theorem do_unmap (b cb wb rb rwb rhb : Nat) (cs ws : List Nat) (ct : Nat) (d at_ n W : Int) (A o v : Nat) (w : World) (hg : Laid w) (h : Sync w b cb wb rb rwb rhb cs ws ct) (hd : -9223372036854775808 ≤ d ∧ d ≤ 9223372036854775807) (hq : d % 9 = 1)
    (hat : -9223372036854775808 ≤ at_ ∧ at_ ≤ 9223372036854775807) (hn : -9223372036854775808 ≤ n ∧ n ≤ 9223372036854775807) (hgl : ∀ k, Six b cb wb rb rwb rhb k → k ≠ 0) :
    Calls Tryd.prog 21 #[.pointer (some ⟨b, 0, none⟩), .pointer (some ⟨rb, 0, none⟩), .agg #[.int .i64 d, .int .i64 at_, .int .i64 n, .int .i64 W, .int .u64 A, .int .u64 o, .int .u64 v]] w fun e w' => e = .returned (.bool true) ∧
      Synced w' b cb wb rb rwb rhb ws.length ct ∧ Fr (Six b cb wb rb rwb rhb) w w' := by
  have hwi := fun w => within_any d 9 w (by omega) (by omega) hd.1 hd.2
  rw [hq] at hwi
  have HWI := Lib.hid hwi
  have H := Lib.hid h
  have HG := Lib.hid hg
  have hlen := h.r.len.2
  have hbl := h.m.hd.lt
  have hcl := h.m.cells.lt
  have hwl := h.m.widths.lt
  have hrl := h.r.hd.lt
  have hrwl := h.r.widths.lt
  have hrhl := h.r.holds.lt
  have hab := h.ab
  have hac := h.ac
  have haw := h.aw
  have HTH := Lib.hid (show (unmapErr ws at_ n) = none → n ≤ ((cnt ws : Nat) : Int) from (fun he => by have := unmap_cnt he; omega))
  clear hwi hq h hg
  go_enter Tryd.func21, Tryd.ntmps21
  go_wp2_with fail
  obtain ⟨W0, hW0⟩ : ∃ W0, w.alloc (.cells #[.int .i64 d, .int .i64 at_, .int .i64 n, .int .i64 W, .int .u64 A, .int .u64 o, .int .u64 v] 50) = W0 := ⟨_, rfl⟩
  have hx0 : Arr W0 w.heap.size [.int .i64 d, .int .i64 at_, .int .i64 n, .int .i64 W, .int .u64 A, .int .u64 o, .int .u64 v] := by rw [← hW0]; exact Arr.new _ _ _
  have hn0 : New w W0 := by rw [← hW0]; exact (Fr.refl _ _).alloc _
  have hxlt := hx0.lt
  rw [hW0]
  have x0 := hx0.cell 0 _ rfl
  have x1 := hx0.cell 1 _ rfl
  have x2 := hx0.cell 2 _ rfl
  have x3 := hx0.cell 3 _ rfl
  have HN0 := Lib.hid hn0
  have HS0 := Lib.hid (H.out.keep hn0 (fun _ _ => id))
  have HG0 := Lib.hid (HG.out.keep hn0 id)
  have hz0 : w.heap.size < W0.drew.heap.size := hxlt
  clear hx0 hn0 hW0 H HG
  go_wp2_with (go_at_call 16; refine (HWI.out _).mono ?_; rintro e w' ⟨rfl, rfl⟩)
  have S0 : W0.drew.cell? ⟨w.heap.size, 1, none⟩ = some (.int .i64 at_) ∧ W0.drew.cell? ⟨w.heap.size, 2, none⟩ = some (.int .i64 n) ∧ W0.drew.cell? ⟨w.heap.size, 3, none⟩ = some (.int .i64 W) := ⟨x1, x2, x3⟩
  refine heldStart (fun W1 => W1.cell? ⟨w.heap.size, 1, none⟩ = some (.int .i64 at_) ∧ W1.cell? ⟨w.heap.size, 2, none⟩ = some (.int .i64 n) ∧ W1.cell? ⟨w.heap.size, 3, none⟩ = some (.int .i64 W)) (by kernel_rfl) ?_
  clear x0 x1 x2 x3
  refine wpAnyH_take (i := 0) (v := ?_) rfl (by kernel_rfl) (by kernel_rfl) (by kernel_rfl) (fun _ _ _ h => h) (Or.inl ⟨by rfl, ?_⟩) S0 ?_
  rotate_left
  · intro w hSw; first | (obtain ⟨s1, s2, s3⟩ := hSw; go_simp; rfl) | (obtain ⟨s1, s2⟩ := hSw; go_simp; rfl) | (have s1 := hSw; go_simp; rfl)
  refine wpAnyH_take (i := 1) (v := ?_) rfl (by kernel_rfl) (by kernel_rfl) (by kernel_rfl) (fun _ _ _ h => h) (Or.inl ⟨by rfl, ?_⟩) S0 ?_
  rotate_left
  · intro w hSw; first | (obtain ⟨s1, s2, s3⟩ := hSw; go_simp; rfl) | (obtain ⟨s1, s2⟩ := hSw; go_simp; rfl) | (have s1 := hSw; go_simp; rfl)
  refine wpAnyH_take (i := 2) (v := ?_) rfl (by kernel_rfl) (by kernel_rfl) (by kernel_rfl) (fun _ _ _ h => h) (Or.inl ⟨by rfl, ?_⟩) S0 ?_
  rotate_left
  · intro w hSw; first | (obtain ⟨s1, s2, s3⟩ := hSw; go_simp; rfl) | (obtain ⟨s1, s2⟩ := hSw; go_simp; rfl) | (have s1 := hSw; go_simp; rfl)
  refine wpAnyH_take (i := 3) (v := ?_) rfl (by kernel_rfl) (by kernel_rfl) (by kernel_rfl) (fun _ _ _ h => h) (Or.inl ⟨by rfl, ?_⟩) S0 ?_
  rotate_left
  · intro w hSw; first | (obtain ⟨s1, s2, s3⟩ := hSw; go_simp; rfl) | (obtain ⟨s1, s2⟩ := hSw; go_simp; rfl) | (have s1 := hSw; go_simp; rfl)
  refine wpAnyH_take (i := 4) (v := ?_) rfl (by kernel_rfl) (by kernel_rfl) (by kernel_rfl) (fun _ _ _ h => h) (Or.inl ⟨by rfl, ?_⟩) S0 ?_
  rotate_left
  · intro w hSw; first | (obtain ⟨s1, s2, s3⟩ := hSw; go_simp; rfl) | (obtain ⟨s1, s2⟩ := hSw; go_simp; rfl) | (have s1 := hSw; go_simp; rfl)
  refine wpAnyH_take (i := 6) (v := ?_) rfl (by kernel_rfl) (by kernel_rfl) (by kernel_rfl) (fun _ _ _ h => h) (Or.inl ⟨by rfl, ?_⟩) S0 ?_
  rotate_left
  · intro w hSw; first | (obtain ⟨s1, s2, s3⟩ := hSw; go_simp; rfl) | (obtain ⟨s1, s2⟩ := hSw; go_simp; rfl) | (have s1 := hSw; go_simp; rfl)
  refine wpAnyH_take (i := 7) (v := ?_) rfl (by kernel_rfl) (by kernel_rfl) (by kernel_rfl) (fun _ _ _ h => h) (Or.inl ⟨by rfl, ?_⟩) S0 ?_
  rotate_left
  · intro w hSw; first | (obtain ⟨s1, s2, s3⟩ := hSw; go_simp; rfl) | (obtain ⟨s1, s2⟩ := hSw; go_simp; rfl) | (have s1 := hSw; go_simp; rfl)
  refine wpAnyH_take (i := 8) (v := ?_) rfl (by kernel_rfl) (by kernel_rfl) (by kernel_rfl) (fun _ _ _ h => h) (Or.inl ⟨by rfl, ?_⟩) S0 ?_
  rotate_left
  · intro w hSw; first | (obtain ⟨s1, s2, s3⟩ := hSw; go_simp; rfl) | (obtain ⟨s1, s2⟩ := hSw; go_simp; rfl) | (have s1 := hSw; go_simp; rfl)
  refine wpAnyH_take (i := 9) (v := ?_) rfl (by kernel_rfl) (by kernel_rfl) (by kernel_rfl) (fun _ _ _ h => h) (Or.inl ⟨by rfl, ?_⟩) S0 ?_
  rotate_left
  · intro w hSw; first | (obtain ⟨s1, s2, s3⟩ := hSw; go_simp; rfl) | (obtain ⟨s1, s2⟩ := hSw; go_simp; rfl) | (have s1 := hSw; go_simp; rfl)
  refine wpAnyH_take (i := 10) (v := ?_) rfl (by kernel_rfl) (by kernel_rfl) (by kernel_rfl) (fun _ _ _ h => h) (Or.inl ⟨by rfl, ?_⟩) S0 ?_
  rotate_left
  · intro w hSw; first | (obtain ⟨s1, s2, s3⟩ := hSw; go_simp; rfl) | (obtain ⟨s1, s2⟩ := hSw; go_simp; rfl) | (have s1 := hSw; go_simp; rfl)
  have HD := Lib.hid (HS0.out.keep ((Fr.refl (fun _ => False) W0).drew) (fun _ _ => id))
  have HND := Lib.hid (HN0.out.drew)
  have HGD := Lib.hid (show Laid W0.drew from HG0.out)
  clear HS0 HN0 HG0 HWI
  generalize W0.drew = V0 at HD HND HGD S0 hz0 ⊢
  refine heldOne (i := 5) (by kernel_rfl) rfl (by rfl) (fun K hK => ?_)
  go_simp
  refine (unmap_any b cb wb cs ws (cnt ws) ct at_ n V0 HD.out.m hat.2 HTH.out).mono ?_
  rintro e w1 ⟨x, rfl, hx, hr, hf⟩
  have s1 : w1.cell? ⟨w.heap.size, 1, none⟩ = some (.int .i64 at_) ∧ w1.cell? ⟨w.heap.size, 2, none⟩ = some (.int .i64 n) ∧ w1.cell? ⟨w.heap.size, 3, none⟩ = some (.int .i64 W) :=
    ⟨(hf.cell hz0 (by omega) _).trans S0.1, (hf.cell hz0 (by omega) _).trans S0.2.1, (hf.cell hz0 (by omega) _).trans S0.2.2⟩
  have hz1 := hf.size
  refine hK.out _ _ s1 ?_
  clear hK K
  refine heldOne (i := 11) (by kernel_rfl) rfl (by rfl) (fun K hK => ?_)
  go_simp
  refine (runmap_any rb rwb rhb cs ws ct at_ n w1 (HD.out.r.keep hf (by omega) (by omega) (by omega)) hn.2 hat.2).mono ?_
  rintro e w2 ⟨f, rfl, hfl, hr2, hf2⟩
  have hx2 := Says.keepIf hf2 hx
  have hm2 : if (unmapErr ws at_ n) = none then ∃ th', MemRep w2 b cb wb (fill cs at_.toNat n.toNat 0) (fill ws at_.toNat n.toNat 0) th' ct ∧ th' = cnt ws - n.toNat else MemRep w2 b cb wb cs ws (cnt ws) ct := by
    split
    · rename_i he
      rw [if_pos he] at hr
      obtain ⟨th, h1, h2⟩ := hr
      exact ⟨th, h1.keep hf2 (by omega) (by omega) (by omega), h2⟩
    · rename_i he
      rw [if_neg he] at hr
      exact hr.keep hf2 (by omega) (by omega) (by omega)
  have hsy := unmap_synced hab hac haw rfl hm2 hr2
  have hfr : Fr (fun k => Six b cb wb rb rwb rhb k) w w2 := ((HND.out.mono (fun _ _ h => h.elim)).trans (hf.mono (fun _ _ h => .inl h.2))).trans (hf2.mono (fun _ _ h => .inr (h.2.elim (fun e => .inr (.inl e)) (fun e => .inr (.inr e)))))
  have s2 : w2.cell? ⟨w.heap.size, 1, none⟩ = some (.int .i64 at_) ∧ w2.cell? ⟨w.heap.size, 2, none⟩ = some (.int .i64 n) ∧ w2.cell? ⟨w.heap.size, 3, none⟩ = some (.int .i64 W) :=
    ⟨(hf2.cell (by omega) (by omega) _).trans s1.1, (hf2.cell (by omega) (by omega) _).trans s1.2.1, (hf2.cell (by omega) (by omega) _).trans s1.2.2⟩
  have hg2 : Laid w2 := (HGD.out.keep hf (fun h => hgl _ (.inl h.2) rfl)).keep hf2 (fun h => hgl _ (.inr (h.2.elim (fun e => .inr (.inl e)) (fun e => .inr (.inr e)))) rfl)
  have hz2 := hf2.size
  refine hK.out _ _ s2 ?_
  clear hK K hx hr hm2 hr2 s1
  refine heldOne (i := 12) (by kernel_rfl) rfl (by rfl) (fun K hK => ?_)
  go_simp
  refine (same_says x f memL _ w2 hg2 hx2 hfl).mono ?_
  rintro e w3 ⟨rfl, hn3⟩
  have s3 : w3.cell? ⟨w.heap.size, 1, none⟩ = some (.int .i64 at_) ∧ w3.cell? ⟨w.heap.size, 2, none⟩ = some (.int .i64 n) ∧ w3.cell? ⟨w.heap.size, 3, none⟩ = some (.int .i64 W) :=
    ⟨(hn3.cell (by omega) id _).trans s2.1, (hn3.cell (by omega) id _).trans s2.2.1, (hn3.cell (by omega) id _).trans s2.2.2⟩
  have HSY := Lib.hid (hsy.keep hn3 (fun _ _ => id))
  have HFR := Lib.hid (hfr.trans (hn3.mono (fun _ _ h => h.elim)))
  refine hK.out _ _ s3 ?_
  clear hK K hsy hfr hx2 hfl hg2 s2 hf hf2 hn3
  refine wpAnyH_take (i := 13) (v := ?_) rfl (by kernel_rfl) (by kernel_rfl) (by kernel_rfl) (fun _ _ _ h => h) (Or.inl ⟨by rfl, ?_⟩) s3 ?_
  rotate_left
  · intro w hSw; first | (obtain ⟨s1, s2, s3⟩ := hSw; go_simp; rfl) | (obtain ⟨s1, s2⟩ := hSw; go_simp; rfl) | (have s1 := hSw; go_simp; rfl)
  refine wpAnyH_done (by kernel_rfl) ?_ _
  clear s3
  go_wp2
  go_ret
  exact ⟨rfl, HSY.out, HFR.out⟩

set_option maxRecDepth 100000 in
set_option maxHeartbeats 4000000 in
theorem do_width (b cb wb rb rwb rhb : Nat) (cs ws : List Nat) (ct : Nat) (d at_ n W : Int) (A o v : Nat) (w : World) (hg : Laid w) (h : Sync w b cb wb rb rwb rhb cs ws ct) (hd : -9223372036854775808 ≤ d ∧ d ≤ 9223372036854775807) (hq : d % 9 = 2) :
    Calls Tryd.prog 21 #[.pointer (some ⟨b, 0, none⟩), .pointer (some ⟨rb, 0, none⟩), .agg #[.int .i64 d, .int .i64 at_, .int .i64 n, .int .i64 W, .int .u64 A, .int .u64 o, .int .u64 v]] w fun e w' => e = .returned (.bool true) ∧
      Synced w' b cb wb rb rwb rhb ws.length ct ∧ Fr (Six b cb wb rb rwb rhb) w w' := by
  have hwi := fun w => within_any d 9 w (by omega) (by omega) hd.1 hd.2
  rw [hq] at hwi
  have HWI := Lib.hid hwi
  have H := Lib.hid h
  have HG := Lib.hid hg
  have hlen := h.r.len.2
  have hbl := h.m.hd.lt
  have hcl := h.m.cells.lt
  have hwl := h.m.widths.lt
  have hrl := h.r.hd.lt
  have hrwl := h.r.widths.lt
  have hrhl := h.r.holds.lt
  have hab := h.ab
  have hac := h.ac
  have haw := h.aw
  clear hwi hq h hg
  go_enter Tryd.func21, Tryd.ntmps21
  go_wp2_with fail
  obtain ⟨W0, hW0⟩ : ∃ W0, w.alloc (.cells #[.int .i64 d, .int .i64 at_, .int .i64 n, .int .i64 W, .int .u64 A, .int .u64 o, .int .u64 v] 50) = W0 := ⟨_, rfl⟩
  have hx0 : Arr W0 w.heap.size [.int .i64 d, .int .i64 at_, .int .i64 n, .int .i64 W, .int .u64 A, .int .u64 o, .int .u64 v] := by rw [← hW0]; exact Arr.new _ _ _
  have hn0 : New w W0 := by rw [← hW0]; exact (Fr.refl _ _).alloc _
  have hxlt := hx0.lt
  rw [hW0]
  have x0 := hx0.cell 0 _ rfl
  have x4 := hx0.cell 4 _ rfl
  have x5 := hx0.cell 5 _ rfl
  have x6 := hx0.cell 6 _ rfl
  have HN0 := Lib.hid hn0
  have HS0 := Lib.hid (H.out.keep hn0 (fun _ _ => id))
  have HG0 := Lib.hid (HG.out.keep hn0 id)
  have hz0 : w.heap.size < W0.drew.heap.size := hxlt
  clear hx0 hn0 hW0 H HG
  go_wp2_with (go_at_call 16; refine (HWI.out _).mono ?_; rintro e w' ⟨rfl, rfl⟩)
  have S0 : W0.drew.cell? ⟨w.heap.size, 4, none⟩ = some (.int .u64 A) := x4
  refine heldStart (fun W1 => W1.cell? ⟨w.heap.size, 4, none⟩ = some (.int .u64 A)) (by kernel_rfl) ?_
  clear x0 x4 x5 x6
  refine wpAnyH_take (i := 0) (v := ?_) rfl (by kernel_rfl) (by kernel_rfl) (by kernel_rfl) (fun _ _ _ h => h) (Or.inl ⟨by rfl, ?_⟩) S0 ?_
  rotate_left
  · intro w hSw; first | (obtain ⟨s1, s2, s3⟩ := hSw; go_simp; rfl) | (obtain ⟨s1, s2⟩ := hSw; go_simp; rfl) | (have s1 := hSw; go_simp; rfl)
  refine wpAnyH_take (i := 1) (v := ?_) rfl (by kernel_rfl) (by kernel_rfl) (by kernel_rfl) (fun _ _ _ h => h) (Or.inl ⟨by rfl, ?_⟩) S0 ?_
  rotate_left
  · intro w hSw; first | (obtain ⟨s1, s2, s3⟩ := hSw; go_simp; rfl) | (obtain ⟨s1, s2⟩ := hSw; go_simp; rfl) | (have s1 := hSw; go_simp; rfl)
  refine wpAnyH_take (i := 2) (v := ?_) rfl (by kernel_rfl) (by kernel_rfl) (by kernel_rfl) (fun _ _ _ h => h) (Or.inl ⟨by rfl, ?_⟩) S0 ?_
  rotate_left
  · intro w hSw; first | (obtain ⟨s1, s2, s3⟩ := hSw; go_simp; rfl) | (obtain ⟨s1, s2⟩ := hSw; go_simp; rfl) | (have s1 := hSw; go_simp; rfl)
  refine wpAnyH_take (i := 4) (v := ?_) rfl (by kernel_rfl) (by kernel_rfl) (by kernel_rfl) (fun _ _ _ h => h) (Or.inl ⟨by rfl, ?_⟩) S0 ?_
  rotate_left
  · intro w hSw; first | (obtain ⟨s1, s2, s3⟩ := hSw; go_simp; rfl) | (obtain ⟨s1, s2⟩ := hSw; go_simp; rfl) | (have s1 := hSw; go_simp; rfl)
  refine wpAnyH_take (i := 5) (v := ?_) rfl (by kernel_rfl) (by kernel_rfl) (by kernel_rfl) (fun _ _ _ h => h) (Or.inl ⟨by rfl, ?_⟩) S0 ?_
  rotate_left
  · intro w hSw; first | (obtain ⟨s1, s2, s3⟩ := hSw; go_simp; rfl) | (obtain ⟨s1, s2⟩ := hSw; go_simp; rfl) | (have s1 := hSw; go_simp; rfl)
  refine wpAnyH_take (i := 6) (v := ?_) rfl (by kernel_rfl) (by kernel_rfl) (by kernel_rfl) (fun _ _ _ h => h) (Or.inl ⟨by rfl, ?_⟩) S0 ?_
  rotate_left
  · intro w hSw; first | (obtain ⟨s1, s2, s3⟩ := hSw; go_simp; rfl) | (obtain ⟨s1, s2⟩ := hSw; go_simp; rfl) | (have s1 := hSw; go_simp; rfl)
  have HD := Lib.hid (HS0.out.keep ((Fr.refl (fun _ => False) W0).drew) (fun _ _ => id))
  have HND := Lib.hid (HN0.out.drew)
  clear HS0 HN0 HG0 HWI
  generalize W0.drew = V0 at HD HND S0 hz0 ⊢
  have hw1 := width_any b cb wb cs ws (cnt ws) ct A V0 HD.out.m
  have hw2 := rwidth_any rb rwb rhb cs ws ct A V0 HD.out.r
  generalize ws.getD A 0 = y at hw1 hw2
  have t0 : ((y : Int) == (y : Int)) = true := by simp
  have HW1 := Lib.hid hw1
  have HW2 := Lib.hid hw2
  clear hw1 hw2
  refine heldOne (i := 3) (by kernel_rfl) rfl (by rfl) (fun K hK => ?_)
  go_simp
  refine HW1.out.mono ?_
  rintro e w1 ⟨rfl, rfl⟩
  refine hK.out _ _ S0 ?_
  clear hK K
  refine heldOne (i := 7) (by kernel_rfl) rfl (by rfl) (fun K hK => ?_)
  go_simp
  refine HW2.out.mono ?_
  rintro e w1 ⟨rfl, rfl⟩
  refine hK.out _ _ S0 ?_
  clear hK K
  refine wpAnyH_take (i := 8) (v := ?_) rfl (by kernel_rfl) (by kernel_rfl) (by kernel_rfl) (fun _ _ _ h => h) (Or.inl ⟨by rfl, ?_⟩) S0 ?_
  rotate_left
  · intro w hSw; first | (obtain ⟨s1, s2, s3⟩ := hSw; go_simp; rfl) | (obtain ⟨s1, s2⟩ := hSw; go_simp; rfl) | (have s1 := hSw; go_simp; rfl)
  refine wpAnyH_take (i := 9) (v := ?_) rfl (by kernel_rfl) (by kernel_rfl) (by kernel_rfl) (fun _ _ _ h => h) (Or.inl ⟨by rfl, ?_⟩) S0 ?_
  rotate_left
  · intro w hSw; first | (obtain ⟨s1, s2, s3⟩ := hSw; go_simp; rfl) | (obtain ⟨s1, s2⟩ := hSw; go_simp; rfl) | (have s1 := hSw; go_simp; rfl)
  refine wpAnyH_done (by kernel_rfl) ?_ _
  clear S0
  go_wp2
  go_ret
  exact ⟨rfl, ⟨cs, ws, ct, HD.out, rfl, by omega⟩, HND.out.mono (fun _ _ h => h.elim)⟩

set_option maxRecDepth 100000 in
set_option maxHeartbeats 4000000 in
theorem do_load (b cb wb rb rwb rhb : Nat) (cs ws : List Nat) (ct : Nat) (d at_ n W : Int) (A o v : Nat) (w : World) (hg : Laid w) (h : Sync w b cb wb rb rwb rhb cs ws ct) (hd : -9223372036854775808 ≤ d ∧ d ≤ 9223372036854775807) (hq : d % 9 = 3)
    (hA : A < 18446744073709551616) (ho : o < 18446744073709551616) (hv : v < 18446744073709551616) (hct : ct + 1 < 1000000000) (hgl : ∀ k, Six b cb wb rb rwb rhb k → k ≠ 0) :
    Calls Tryd.prog 21 #[.pointer (some ⟨b, 0, none⟩), .pointer (some ⟨rb, 0, none⟩), .agg #[.int .i64 d, .int .i64 at_, .int .i64 n, .int .i64 W, .int .u64 A, .int .u64 o, .int .u64 v]] w fun e w' => e = .returned (.bool true) ∧
      Synced w' b cb wb rb rwb rhb ws.length ct ∧ Fr (Six b cb wb rb rwb rhb) w w' := by
  have hwi := fun w => within_any d 9 w (by omega) (by omega) hd.1 hd.2
  rw [hq] at hwi
  have HWI := Lib.hid hwi
  have H := Lib.hid h
  have HG := Lib.hid hg
  have hlen := h.r.len.2
  have hbl := h.m.hd.lt
  have hcl := h.m.cells.lt
  have hwl := h.m.widths.lt
  have hrl := h.r.hd.lt
  have hrwl := h.r.widths.lt
  have hrhl := h.r.holds.lt
  have hab := h.ab
  have hac := h.ac
  have haw := h.aw
  clear hwi hq h hg
  go_enter Tryd.func21, Tryd.ntmps21
  go_wp2_with fail
  obtain ⟨W0, hW0⟩ : ∃ W0, w.alloc (.cells #[.int .i64 d, .int .i64 at_, .int .i64 n, .int .i64 W, .int .u64 A, .int .u64 o, .int .u64 v] 50) = W0 := ⟨_, rfl⟩
  have hx0 : Arr W0 w.heap.size [.int .i64 d, .int .i64 at_, .int .i64 n, .int .i64 W, .int .u64 A, .int .u64 o, .int .u64 v] := by rw [← hW0]; exact Arr.new _ _ _
  have hn0 : New w W0 := by rw [← hW0]; exact (Fr.refl _ _).alloc _
  have hxlt := hx0.lt
  rw [hW0]
  have x0 := hx0.cell 0 _ rfl
  have x4 := hx0.cell 4 _ rfl
  have x5 := hx0.cell 5 _ rfl
  have x6 := hx0.cell 6 _ rfl
  have HN0 := Lib.hid hn0
  have HS0 := Lib.hid (H.out.keep hn0 (fun _ _ => id))
  have HG0 := Lib.hid (HG.out.keep hn0 id)
  have hz0 : w.heap.size < W0.drew.heap.size := hxlt
  clear hx0 hn0 hW0 H HG
  have hsame : accCs 0 cs ws A 0 0 = accCs 0 cs ws A o v := laid_load cs ws A o v
  have hcall := load_all b cb wb cs ws (cnt ws) ct A W0 HS0.out.m (by omega) hA
  rw [hsame] at hcall
  have HCA := Lib.hid hcall
  have t0 : (((accVal cs ws A : Nat) : Int) == ((accVal cs ws A : Nat) : Int)) = true := by simp
  have HAV := Lib.hid (rfl : accVal cs ws A = accVal cs ws A)
  have hav := acc_lt (ws := ws) HS0.out.r.fits A
  clear hcall hsame
  generalize hy : accVal cs ws A = y at HCA t0 hav
  have HY := Lib.hid hy
  clear hy HAV
  go_wp2_with (go_at_call 16; refine (HWI.out _).mono ?_; rintro e w' ⟨rfl, rfl⟩)
  refine HCA.out.mono ?_
  rintro e w1 ⟨x, rfl, hx, hr, hf⟩
  have y4 := (hf.cell (b := w.heap.size) hxlt (by omega) 4).trans x4
  have y5 := (hf.cell (b := w.heap.size) hxlt (by omega) 5).trans x5
  have y6 := (hf.cell (b := w.heap.size) hxlt (by omega) 6).trans x6
  have hrd := rdo_any 0 rb rwb rhb cs ws ct A o v w1 (by omega) (HS0.out.r.keep hf (by omega) (by omega) (by omega)) hct hv ho hA
  rw [HY.out] at hrd
  have HRD := Lib.hid hrd
  have HX := Lib.hid hx
  have HM := Lib.hid hr
  have HF := Lib.hid hf
  have hz1 := hf.size
  clear hrd hx hr hf x0 x4 x5 x6 HCA HWI
  go_wp2_with fail
  refine HRD.out.mono ?_
  rintro e w2 ⟨f, rfl, hfl, hr2, hf2⟩
  have hx2 := Says.keepIf hf2 HX.out
  have hm2 := HM.out.keep hf2 (by omega) (by omega) (by omega)
  have hsy : Synced w2 b cb wb rb rwb rhb ws.length ct := ⟨_, _, _, ⟨hm2, hr2, hab, hac, haw⟩, rfl, by unfold accN; split <;> omega⟩
  have hfr : Fr (fun k => Six b cb wb rb rwb rhb k) w w2 := ((HN0.out.mono (fun _ _ h => h.elim)).trans (HF.out.mono (fun _ _ h => .inl (h.2.elim .inl (fun e => .inr (.inl e)))))).trans (hf2.mono (fun _ _ h => .inr (h.2.elim (fun e => .inl e) (fun e => .inr (.inr e)))))
  have hg2 : Laid w2 := (HG0.out.keep HF.out (fun h => hgl _ (.inl (h.2.elim .inl (fun e => .inr (.inl e)))) rfl)).keep hf2 (fun h => hgl _ (.inr (h.2.elim .inl (fun e => .inr (.inr e)))) rfl)
  have HSM := Lib.hid (same_says x f memL _ w2 hg2 hx2 hfl)
  have HSY := Lib.hid hsy
  have HFR := Lib.hid hfr
  clear hsy hfr hx2 hfl hg2 hf2 hr2 hm2 HX HM HRD y4 y5 y6
  go_wp2_with fail
  refine HSM.out.mono ?_
  rintro e w3 ⟨rfl, hn3⟩
  have HSY3 := Lib.hid (HSY.out.keep hn3 (fun _ _ => id))
  have HFR3 := Lib.hid (HFR.out.trans (hn3.mono (fun _ _ h => h.elim)))
  clear hn3 HSY HFR HSM
  go_wp2
  go_ret
  exact ⟨rfl, HSY3.out, HFR3.out⟩

set_option maxRecDepth 100000 in
set_option maxHeartbeats 4000000 in
theorem do_swap (b cb wb rb rwb rhb : Nat) (cs ws : List Nat) (ct : Nat) (d at_ n W : Int) (A o v : Nat) (w : World) (hg : Laid w) (h : Sync w b cb wb rb rwb rhb cs ws ct) (hd : -9223372036854775808 ≤ d ∧ d ≤ 9223372036854775807) (hq : d % 9 = 5)
    (hA : A < 18446744073709551616) (ho : o < 18446744073709551616) (hv : v < 18446744073709551616) (hct : ct + 1 < 1000000000) (hgl : ∀ k, Six b cb wb rb rwb rhb k → k ≠ 0) :
    Calls Tryd.prog 21 #[.pointer (some ⟨b, 0, none⟩), .pointer (some ⟨rb, 0, none⟩), .agg #[.int .i64 d, .int .i64 at_, .int .i64 n, .int .i64 W, .int .u64 A, .int .u64 o, .int .u64 v]] w fun e w' => e = .returned (.bool true) ∧
      Synced w' b cb wb rb rwb rhb ws.length ct ∧ Fr (Six b cb wb rb rwb rhb) w w' := by
  have hwi := fun w => within_any d 9 w (by omega) (by omega) hd.1 hd.2
  rw [hq] at hwi
  have HWI := Lib.hid hwi
  have H := Lib.hid h
  have HG := Lib.hid hg
  have hlen := h.r.len.2
  have hbl := h.m.hd.lt
  have hcl := h.m.cells.lt
  have hwl := h.m.widths.lt
  have hrl := h.r.hd.lt
  have hrwl := h.r.widths.lt
  have hrhl := h.r.holds.lt
  have hab := h.ab
  have hac := h.ac
  have haw := h.aw
  clear hwi hq h hg
  go_enter Tryd.func21, Tryd.ntmps21
  go_wp2_with fail
  obtain ⟨W0, hW0⟩ : ∃ W0, w.alloc (.cells #[.int .i64 d, .int .i64 at_, .int .i64 n, .int .i64 W, .int .u64 A, .int .u64 o, .int .u64 v] 50) = W0 := ⟨_, rfl⟩
  have hx0 : Arr W0 w.heap.size [.int .i64 d, .int .i64 at_, .int .i64 n, .int .i64 W, .int .u64 A, .int .u64 o, .int .u64 v] := by rw [← hW0]; exact Arr.new _ _ _
  have hn0 : New w W0 := by rw [← hW0]; exact (Fr.refl _ _).alloc _
  have hxlt := hx0.lt
  rw [hW0]
  have x0 := hx0.cell 0 _ rfl
  have x4 := hx0.cell 4 _ rfl
  have x5 := hx0.cell 5 _ rfl
  have x6 := hx0.cell 6 _ rfl
  have HN0 := Lib.hid hn0
  have HS0 := Lib.hid (H.out.keep hn0 (fun _ _ => id))
  have HG0 := Lib.hid (HG.out.keep hn0 id)
  have hz0 : w.heap.size < W0.drew.heap.size := hxlt
  clear hx0 hn0 hW0 H HG
  have hsame : accCs 2 cs ws A 0 v = accCs 2 cs ws A o v := laid_swap cs ws A o v
  have hcall := swap_all b cb wb cs ws (cnt ws) ct A v W0 HS0.out.m (by omega) hv hA
  rw [hsame] at hcall
  have HCA := Lib.hid hcall
  have t0 : (((accVal cs ws A : Nat) : Int) == ((accVal cs ws A : Nat) : Int)) = true := by simp
  have HAV := Lib.hid (rfl : accVal cs ws A = accVal cs ws A)
  have hav := acc_lt (ws := ws) HS0.out.r.fits A
  clear hcall hsame
  generalize hy : accVal cs ws A = y at HCA t0 hav
  have HY := Lib.hid hy
  clear hy HAV
  go_wp2_with (go_at_call 16; refine (HWI.out _).mono ?_; rintro e w' ⟨rfl, rfl⟩)
  refine HCA.out.mono ?_
  rintro e w1 ⟨x, rfl, hx, hr, hf⟩
  have y4 := (hf.cell (b := w.heap.size) hxlt (by omega) 4).trans x4
  have y5 := (hf.cell (b := w.heap.size) hxlt (by omega) 5).trans x5
  have y6 := (hf.cell (b := w.heap.size) hxlt (by omega) 6).trans x6
  have hrd := rdo_any 2 rb rwb rhb cs ws ct A o v w1 (by omega) (HS0.out.r.keep hf (by omega) (by omega) (by omega)) hct hv ho hA
  rw [HY.out] at hrd
  have HRD := Lib.hid hrd
  have HX := Lib.hid hx
  have HM := Lib.hid hr
  have HF := Lib.hid hf
  have hz1 := hf.size
  clear hrd hx hr hf x0 x4 x5 x6 HCA HWI
  go_wp2_with fail
  refine HRD.out.mono ?_
  rintro e w2 ⟨f, rfl, hfl, hr2, hf2⟩
  have hx2 := Says.keepIf hf2 HX.out
  have hm2 := HM.out.keep hf2 (by omega) (by omega) (by omega)
  have hsy : Synced w2 b cb wb rb rwb rhb ws.length ct := ⟨_, _, _, ⟨hm2, hr2, hab, hac, haw⟩, rfl, by unfold accN; split <;> omega⟩
  have hfr : Fr (fun k => Six b cb wb rb rwb rhb k) w w2 := ((HN0.out.mono (fun _ _ h => h.elim)).trans (HF.out.mono (fun _ _ h => .inl (h.2.elim .inl (fun e => .inr (.inl e)))))).trans (hf2.mono (fun _ _ h => .inr (h.2.elim (fun e => .inl e) (fun e => .inr (.inr e)))))
  have hg2 : Laid w2 := (HG0.out.keep HF.out (fun h => hgl _ (.inl (h.2.elim .inl (fun e => .inr (.inl e)))) rfl)).keep hf2 (fun h => hgl _ (.inr (h.2.elim .inl (fun e => .inr (.inr e)))) rfl)
  have HSM := Lib.hid (same_says x f memL _ w2 hg2 hx2 hfl)
  have HSY := Lib.hid hsy
  have HFR := Lib.hid hfr
  clear hsy hfr hx2 hfl hg2 hf2 hr2 hm2 HX HM HRD y4 y5 y6
  go_wp2_with fail
  refine HSM.out.mono ?_
  rintro e w3 ⟨rfl, hn3⟩
  have HSY3 := Lib.hid (HSY.out.keep hn3 (fun _ _ => id))
  have HFR3 := Lib.hid (HFR.out.trans (hn3.mono (fun _ _ h => h.elim)))
  clear hn3 HSY HFR HSM
  go_wp2
  go_ret
  exact ⟨rfl, HSY3.out, HFR3.out⟩

set_option maxRecDepth 100000 in
set_option maxHeartbeats 4000000 in
theorem do_add (b cb wb rb rwb rhb : Nat) (cs ws : List Nat) (ct : Nat) (d at_ n W : Int) (A o v : Nat) (w : World) (hg : Laid w) (h : Sync w b cb wb rb rwb rhb cs ws ct) (hd : -9223372036854775808 ≤ d ∧ d ≤ 9223372036854775807) (hq : d % 9 = 6)
    (hA : A < 18446744073709551616) (ho : o < 18446744073709551616) (hv : v < 18446744073709551616) (hct : ct + 1 < 1000000000) (hgl : ∀ k, Six b cb wb rb rwb rhb k → k ≠ 0) :
    Calls Tryd.prog 21 #[.pointer (some ⟨b, 0, none⟩), .pointer (some ⟨rb, 0, none⟩), .agg #[.int .i64 d, .int .i64 at_, .int .i64 n, .int .i64 W, .int .u64 A, .int .u64 o, .int .u64 v]] w fun e w' => e = .returned (.bool true) ∧
      Synced w' b cb wb rb rwb rhb ws.length ct ∧ Fr (Six b cb wb rb rwb rhb) w w' := by
  have hwi := fun w => within_any d 9 w (by omega) (by omega) hd.1 hd.2
  rw [hq] at hwi
  have HWI := Lib.hid hwi
  have H := Lib.hid h
  have HG := Lib.hid hg
  have hlen := h.r.len.2
  have hbl := h.m.hd.lt
  have hcl := h.m.cells.lt
  have hwl := h.m.widths.lt
  have hrl := h.r.hd.lt
  have hrwl := h.r.widths.lt
  have hrhl := h.r.holds.lt
  have hab := h.ab
  have hac := h.ac
  have haw := h.aw
  clear hwi hq h hg
  go_enter Tryd.func21, Tryd.ntmps21
  go_wp2_with fail
  obtain ⟨W0, hW0⟩ : ∃ W0, w.alloc (.cells #[.int .i64 d, .int .i64 at_, .int .i64 n, .int .i64 W, .int .u64 A, .int .u64 o, .int .u64 v] 50) = W0 := ⟨_, rfl⟩
  have hx0 : Arr W0 w.heap.size [.int .i64 d, .int .i64 at_, .int .i64 n, .int .i64 W, .int .u64 A, .int .u64 o, .int .u64 v] := by rw [← hW0]; exact Arr.new _ _ _
  have hn0 : New w W0 := by rw [← hW0]; exact (Fr.refl _ _).alloc _
  have hxlt := hx0.lt
  rw [hW0]
  have x0 := hx0.cell 0 _ rfl
  have x4 := hx0.cell 4 _ rfl
  have x5 := hx0.cell 5 _ rfl
  have x6 := hx0.cell 6 _ rfl
  have HN0 := Lib.hid hn0
  have HS0 := Lib.hid (H.out.keep hn0 (fun _ _ => id))
  have HG0 := Lib.hid (HG.out.keep hn0 id)
  have hz0 : w.heap.size < W0.drew.heap.size := hxlt
  clear hx0 hn0 hW0 H HG
  have hsame : accCs 3 cs ws A 0 v = accCs 3 cs ws A o v := laid_add cs ws A o v
  have hcall := add_all b cb wb cs ws (cnt ws) ct A v W0 HS0.out.m (by omega) hv hA
  rw [hsame] at hcall
  have HCA := Lib.hid hcall
  have t0 : (((accVal cs ws A : Nat) : Int) == ((accVal cs ws A : Nat) : Int)) = true := by simp
  have HAV := Lib.hid (rfl : accVal cs ws A = accVal cs ws A)
  have hav := acc_lt (ws := ws) HS0.out.r.fits A
  clear hcall hsame
  generalize hy : accVal cs ws A = y at HCA t0 hav
  have HY := Lib.hid hy
  clear hy HAV
  go_wp2_with (go_at_call 16; refine (HWI.out _).mono ?_; rintro e w' ⟨rfl, rfl⟩)
  refine HCA.out.mono ?_
  rintro e w1 ⟨x, rfl, hx, hr, hf⟩
  have y4 := (hf.cell (b := w.heap.size) hxlt (by omega) 4).trans x4
  have y5 := (hf.cell (b := w.heap.size) hxlt (by omega) 5).trans x5
  have y6 := (hf.cell (b := w.heap.size) hxlt (by omega) 6).trans x6
  have hrd := rdo_any 3 rb rwb rhb cs ws ct A o v w1 (by omega) (HS0.out.r.keep hf (by omega) (by omega) (by omega)) hct hv ho hA
  rw [HY.out] at hrd
  have HRD := Lib.hid hrd
  have HX := Lib.hid hx
  have HM := Lib.hid hr
  have HF := Lib.hid hf
  have hz1 := hf.size
  clear hrd hx hr hf x0 x4 x5 x6 HCA HWI
  go_wp2_with fail
  refine HRD.out.mono ?_
  rintro e w2 ⟨f, rfl, hfl, hr2, hf2⟩
  have hx2 := Says.keepIf hf2 HX.out
  have hm2 := HM.out.keep hf2 (by omega) (by omega) (by omega)
  have hsy : Synced w2 b cb wb rb rwb rhb ws.length ct := ⟨_, _, _, ⟨hm2, hr2, hab, hac, haw⟩, rfl, by unfold accN; split <;> omega⟩
  have hfr : Fr (fun k => Six b cb wb rb rwb rhb k) w w2 := ((HN0.out.mono (fun _ _ h => h.elim)).trans (HF.out.mono (fun _ _ h => .inl (h.2.elim .inl (fun e => .inr (.inl e)))))).trans (hf2.mono (fun _ _ h => .inr (h.2.elim (fun e => .inl e) (fun e => .inr (.inr e)))))
  have hg2 : Laid w2 := (HG0.out.keep HF.out (fun h => hgl _ (.inl (h.2.elim .inl (fun e => .inr (.inl e)))) rfl)).keep hf2 (fun h => hgl _ (.inr (h.2.elim .inl (fun e => .inr (.inr e)))) rfl)
  have HSM := Lib.hid (same_says x f memL _ w2 hg2 hx2 hfl)
  have HSY := Lib.hid hsy
  have HFR := Lib.hid hfr
  clear hsy hfr hx2 hfl hg2 hf2 hr2 hm2 HX HM HRD y4 y5 y6
  go_wp2_with fail
  refine HSM.out.mono ?_
  rintro e w3 ⟨rfl, hn3⟩
  have HSY3 := Lib.hid (HSY.out.keep hn3 (fun _ _ => id))
  have HFR3 := Lib.hid (HFR.out.trans (hn3.mono (fun _ _ h => h.elim)))
  clear hn3 HSY HFR HSM
  go_wp2
  go_ret
  exact ⟨rfl, HSY3.out, HFR3.out⟩

set_option maxRecDepth 100000 in
set_option maxHeartbeats 4000000 in
theorem do_cas7 (b cb wb rb rwb rhb : Nat) (cs ws : List Nat) (ct : Nat) (d at_ n W : Int) (A o v : Nat) (w : World) (hg : Laid w) (h : Sync w b cb wb rb rwb rhb cs ws ct) (hd : -9223372036854775808 ≤ d ∧ d ≤ 9223372036854775807) (hq : d % 9 = 7)
    (hA : A < 18446744073709551616) (ho : o < 18446744073709551616) (hv : v < 18446744073709551616) (hct : ct + 1 < 1000000000) (hgl : ∀ k, Six b cb wb rb rwb rhb k → k ≠ 0) :
    Calls Tryd.prog 21 #[.pointer (some ⟨b, 0, none⟩), .pointer (some ⟨rb, 0, none⟩), .agg #[.int .i64 d, .int .i64 at_, .int .i64 n, .int .i64 W, .int .u64 A, .int .u64 o, .int .u64 v]] w fun e w' => e = .returned (.bool true) ∧
      Synced w' b cb wb rb rwb rhb ws.length ct ∧ Fr (Six b cb wb rb rwb rhb) w w' := by
  have hwi := fun w => within_any d 9 w (by omega) (by omega) hd.1 hd.2
  rw [hq] at hwi
  have HWI := Lib.hid hwi
  have H := Lib.hid h
  have HG := Lib.hid hg
  have hlen := h.r.len.2
  have hbl := h.m.hd.lt
  have hcl := h.m.cells.lt
  have hwl := h.m.widths.lt
  have hrl := h.r.hd.lt
  have hrwl := h.r.widths.lt
  have hrhl := h.r.holds.lt
  have hab := h.ab
  have hac := h.ac
  have haw := h.aw
  clear hwi hq h hg
  go_enter Tryd.func21, Tryd.ntmps21
  go_wp2_with fail
  obtain ⟨W0, hW0⟩ : ∃ W0, w.alloc (.cells #[.int .i64 d, .int .i64 at_, .int .i64 n, .int .i64 W, .int .u64 A, .int .u64 o, .int .u64 v] 50) = W0 := ⟨_, rfl⟩
  have hx0 : Arr W0 w.heap.size [.int .i64 d, .int .i64 at_, .int .i64 n, .int .i64 W, .int .u64 A, .int .u64 o, .int .u64 v] := by rw [← hW0]; exact Arr.new _ _ _
  have hn0 : New w W0 := by rw [← hW0]; exact (Fr.refl _ _).alloc _
  have hxlt := hx0.lt
  rw [hW0]
  have x0 := hx0.cell 0 _ rfl
  have x4 := hx0.cell 4 _ rfl
  have x5 := hx0.cell 5 _ rfl
  have x6 := hx0.cell 6 _ rfl
  have HN0 := Lib.hid hn0
  have HS0 := Lib.hid (H.out.keep hn0 (fun _ _ => id))
  have HG0 := Lib.hid (HG.out.keep hn0 id)
  have hz0 : w.heap.size < W0.drew.heap.size := hxlt
  clear hx0 hn0 hW0 H HG
  have hsame : accCs 4 cs ws A o v = accCs 4 cs ws A o v := rfl
  have hcall := cas_all b cb wb cs ws (cnt ws) ct A o v W0 HS0.out.m (by omega) ho hv hA
  rw [hsame] at hcall
  have HCA := Lib.hid hcall
  have t0 : (((accVal cs ws A : Nat) : Int) == ((accVal cs ws A : Nat) : Int)) = true := by simp
  have HAV := Lib.hid (rfl : accVal cs ws A = accVal cs ws A)
  have hav := acc_lt (ws := ws) HS0.out.r.fits A
  clear hcall hsame
  generalize hy : accVal cs ws A = y at HCA t0 hav
  have HY := Lib.hid hy
  clear hy HAV
  go_wp2_with (go_at_call 16; refine (HWI.out _).mono ?_; rintro e w' ⟨rfl, rfl⟩)
  refine HCA.out.mono ?_
  rintro e w1 ⟨x, rfl, hx, hr, hf⟩
  have y4 := (hf.cell (b := w.heap.size) hxlt (by omega) 4).trans x4
  have y5 := (hf.cell (b := w.heap.size) hxlt (by omega) 5).trans x5
  have y6 := (hf.cell (b := w.heap.size) hxlt (by omega) 6).trans x6
  have hrd := rdo_any 4 rb rwb rhb cs ws ct A o v w1 (by omega) (HS0.out.r.keep hf (by omega) (by omega) (by omega)) hct hv ho hA
  rw [HY.out] at hrd
  have HRD := Lib.hid hrd
  have HX := Lib.hid hx
  have HM := Lib.hid hr
  have HF := Lib.hid hf
  have hz1 := hf.size
  clear hrd hx hr hf x0 x4 x5 x6 HCA HWI
  go_wp2_with fail
  refine HRD.out.mono ?_
  rintro e w2 ⟨f, rfl, hfl, hr2, hf2⟩
  have hx2 := Says.keepIf hf2 HX.out
  have hm2 := HM.out.keep hf2 (by omega) (by omega) (by omega)
  have hsy : Synced w2 b cb wb rb rwb rhb ws.length ct := ⟨_, _, _, ⟨hm2, hr2, hab, hac, haw⟩, rfl, by unfold accN; split <;> omega⟩
  have hfr : Fr (fun k => Six b cb wb rb rwb rhb k) w w2 := ((HN0.out.mono (fun _ _ h => h.elim)).trans (HF.out.mono (fun _ _ h => .inl (h.2.elim .inl (fun e => .inr (.inl e)))))).trans (hf2.mono (fun _ _ h => .inr (h.2.elim (fun e => .inl e) (fun e => .inr (.inr e)))))
  have hg2 : Laid w2 := (HG0.out.keep HF.out (fun h => hgl _ (.inl (h.2.elim .inl (fun e => .inr (.inl e)))) rfl)).keep hf2 (fun h => hgl _ (.inr (h.2.elim .inl (fun e => .inr (.inr e)))) rfl)
  have HSM := Lib.hid (same_says x f memL _ w2 hg2 hx2 hfl)
  have HSY := Lib.hid hsy
  have HFR := Lib.hid hfr
  clear hsy hfr hx2 hfl hg2 hf2 hr2 hm2 HX HM HRD y4 y5 y6
  go_wp2_with fail
  refine HSM.out.mono ?_
  rintro e w3 ⟨rfl, hn3⟩
  have HSY3 := Lib.hid (HSY.out.keep hn3 (fun _ _ => id))
  have HFR3 := Lib.hid (HFR.out.trans (hn3.mono (fun _ _ h => h.elim)))
  clear hn3 HSY HFR HSM
  go_wp2
  go_ret
  exact ⟨rfl, HSY3.out, HFR3.out⟩

set_option maxRecDepth 100000 in
set_option maxHeartbeats 4000000 in
theorem do_cas8 (b cb wb rb rwb rhb : Nat) (cs ws : List Nat) (ct : Nat) (d at_ n W : Int) (A o v : Nat) (w : World) (hg : Laid w) (h : Sync w b cb wb rb rwb rhb cs ws ct) (hd : -9223372036854775808 ≤ d ∧ d ≤ 9223372036854775807) (hq : d % 9 = 8)
    (hA : A < 18446744073709551616) (ho : o < 18446744073709551616) (hv : v < 18446744073709551616) (hct : ct + 1 < 1000000000) (hgl : ∀ k, Six b cb wb rb rwb rhb k → k ≠ 0) :
    Calls Tryd.prog 21 #[.pointer (some ⟨b, 0, none⟩), .pointer (some ⟨rb, 0, none⟩), .agg #[.int .i64 d, .int .i64 at_, .int .i64 n, .int .i64 W, .int .u64 A, .int .u64 o, .int .u64 v]] w fun e w' => e = .returned (.bool true) ∧
      Synced w' b cb wb rb rwb rhb ws.length ct ∧ Fr (Six b cb wb rb rwb rhb) w w' := by
  have hwi := fun w => within_any d 9 w (by omega) (by omega) hd.1 hd.2
  rw [hq] at hwi
  have HWI := Lib.hid hwi
  have H := Lib.hid h
  have HG := Lib.hid hg
  have hlen := h.r.len.2
  have hbl := h.m.hd.lt
  have hcl := h.m.cells.lt
  have hwl := h.m.widths.lt
  have hrl := h.r.hd.lt
  have hrwl := h.r.widths.lt
  have hrhl := h.r.holds.lt
  have hab := h.ab
  have hac := h.ac
  have haw := h.aw
  clear hwi hq h hg
  go_enter Tryd.func21, Tryd.ntmps21
  go_wp2_with fail
  obtain ⟨W0, hW0⟩ : ∃ W0, w.alloc (.cells #[.int .i64 d, .int .i64 at_, .int .i64 n, .int .i64 W, .int .u64 A, .int .u64 o, .int .u64 v] 50) = W0 := ⟨_, rfl⟩
  have hx0 : Arr W0 w.heap.size [.int .i64 d, .int .i64 at_, .int .i64 n, .int .i64 W, .int .u64 A, .int .u64 o, .int .u64 v] := by rw [← hW0]; exact Arr.new _ _ _
  have hn0 : New w W0 := by rw [← hW0]; exact (Fr.refl _ _).alloc _
  have hxlt := hx0.lt
  rw [hW0]
  have x0 := hx0.cell 0 _ rfl
  have x4 := hx0.cell 4 _ rfl
  have x5 := hx0.cell 5 _ rfl
  have x6 := hx0.cell 6 _ rfl
  have HN0 := Lib.hid hn0
  have HS0 := Lib.hid (H.out.keep hn0 (fun _ _ => id))
  have HG0 := Lib.hid (HG.out.keep hn0 id)
  have hz0 : w.heap.size < W0.drew.heap.size := hxlt
  clear hx0 hn0 hW0 H HG
  have hsame : accCs 4 cs ws A o v = accCs 4 cs ws A o v := rfl
  have hcall := cas_all b cb wb cs ws (cnt ws) ct A o v W0 HS0.out.m (by omega) ho hv hA
  rw [hsame] at hcall
  have HCA := Lib.hid hcall
  have t0 : (((accVal cs ws A : Nat) : Int) == ((accVal cs ws A : Nat) : Int)) = true := by simp
  have HAV := Lib.hid (rfl : accVal cs ws A = accVal cs ws A)
  have hav := acc_lt (ws := ws) HS0.out.r.fits A
  clear hcall hsame
  generalize hy : accVal cs ws A = y at HCA t0 hav
  have HY := Lib.hid hy
  clear hy HAV
  go_wp2_with (go_at_call 16; refine (HWI.out _).mono ?_; rintro e w' ⟨rfl, rfl⟩)
  refine HCA.out.mono ?_
  rintro e w1 ⟨x, rfl, hx, hr, hf⟩
  have y4 := (hf.cell (b := w.heap.size) hxlt (by omega) 4).trans x4
  have y5 := (hf.cell (b := w.heap.size) hxlt (by omega) 5).trans x5
  have y6 := (hf.cell (b := w.heap.size) hxlt (by omega) 6).trans x6
  have hrd := rdo_any 4 rb rwb rhb cs ws ct A o v w1 (by omega) (HS0.out.r.keep hf (by omega) (by omega) (by omega)) hct hv ho hA
  rw [HY.out] at hrd
  have HRD := Lib.hid hrd
  have HX := Lib.hid hx
  have HM := Lib.hid hr
  have HF := Lib.hid hf
  have hz1 := hf.size
  clear hrd hx hr hf x0 x4 x5 x6 HCA HWI
  go_wp2_with fail
  refine HRD.out.mono ?_
  rintro e w2 ⟨f, rfl, hfl, hr2, hf2⟩
  have hx2 := Says.keepIf hf2 HX.out
  have hm2 := HM.out.keep hf2 (by omega) (by omega) (by omega)
  have hsy : Synced w2 b cb wb rb rwb rhb ws.length ct := ⟨_, _, _, ⟨hm2, hr2, hab, hac, haw⟩, rfl, by unfold accN; split <;> omega⟩
  have hfr : Fr (fun k => Six b cb wb rb rwb rhb k) w w2 := ((HN0.out.mono (fun _ _ h => h.elim)).trans (HF.out.mono (fun _ _ h => .inl (h.2.elim .inl (fun e => .inr (.inl e)))))).trans (hf2.mono (fun _ _ h => .inr (h.2.elim (fun e => .inl e) (fun e => .inr (.inr e)))))
  have hg2 : Laid w2 := (HG0.out.keep HF.out (fun h => hgl _ (.inl (h.2.elim .inl (fun e => .inr (.inl e)))) rfl)).keep hf2 (fun h => hgl _ (.inr (h.2.elim .inl (fun e => .inr (.inr e)))) rfl)
  have HSM := Lib.hid (same_says x f memL _ w2 hg2 hx2 hfl)
  have HSY := Lib.hid hsy
  have HFR := Lib.hid hfr
  clear hsy hfr hx2 hfl hg2 hf2 hr2 hm2 HX HM HRD y4 y5 y6
  go_wp2_with fail
  refine HSM.out.mono ?_
  rintro e w3 ⟨rfl, hn3⟩
  have HSY3 := Lib.hid (HSY.out.keep hn3 (fun _ _ => id))
  have HFR3 := Lib.hid (HFR.out.trans (hn3.mono (fun _ _ h => h.elim)))
  clear hn3 HSY HFR HSM
  go_wp2
  go_ret
  exact ⟨rfl, HSY3.out, HFR3.out⟩

end Go.Proofs.YtfppipbdmjnbcaaDoor
