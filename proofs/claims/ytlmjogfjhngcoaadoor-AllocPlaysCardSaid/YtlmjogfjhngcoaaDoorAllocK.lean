/- The document's blocks: Put, Used, Widest, New. -/
import Derived.Test.YtlmjogfjhngcoaaDoorAllocJ
namespace Go.Proofs.YtlmjogfjhngcoaaDoor
open Go.RowKit

set_option maxRecDepth 100000 in
set_option maxHeartbeats 400000 in
theorem in_nil (l : ByteArray) (n : Int) (w : World) : Calls Tryd.prog 42 #[.string l, .int .i64 n, .pointer none] w fun e w' => e = .returned (.pointer none) ∧ w' = w := by
  go_enter Tryd.func42, Tryd.ntmps42
  go_wp2
  go_ret
  exact ⟨rfl, rfl⟩

set_option maxRecDepth 100000 in
set_option maxHeartbeats 1000000 in
theorem ranew_any (mb wb hb : Nat) (F T : Int) (cs ws : List Nat) (N : Nat) (w : World) (hm : RefRep w mb wb hb cs ws N) (h1 : 0 ≤ F) (h2 : F ≤ T) (h3 : T ≤ 9223372036854775807) :
    Calls Tryd.prog 25 #[.pointer (some ⟨mb, 0, none⟩), .int .i64 F, .int .i64 T] w fun e w' => ∃ ab, e = .returned (.tuple #[.pointer (some ⟨ab, 0, none⟩), .pointer none]) ∧ w.heap.size ≤ ab ∧ RAM w' ab mb wb hb (.slice none 0 0) F T [] ws ∧ New w w' := by
  have HM := Lib.hid hm
  clear hm
  go_enter Tryd.func25, Tryd.ntmps25
  go_wp2
  go_ret2
  have l1 := HM.out.hd.lt
  have l2 := HM.out.widths.lt
  have l3 := HM.out.holds.lt
  exact ⟨w.heap.size, rfl, Nat.le_refl _, ⟨block_alloc_new _ _, World.ownsRow_nil _ _ _ _, ⟨⟨h1, h2, h3⟩, by simp, by simp⟩, by simp, ⟨cs, N, HM.out.keep ((Fr.refl (fun _ => False) _).alloc _) id id id⟩, by omega, by omega, by omega, by simp [Value.ownBlock]⟩, (Fr.refl _ _).alloc _⟩

set_option maxRecDepth 100000 in
set_option maxHeartbeats 2000000 in
theorem rused_any (ab mb wb hb : Nat) (v : Value) (F T : Int) (l : List Bk) (ws : List Nat) (w : World) (h : RAM w ab mb wb hb v F T l ws) :
    Calls Tryd.prog 45 #[.pointer (some ⟨ab, 0, none⟩)] w fun e w' => e = .returned (.int .i64 (usedN l)) ∧ w' = w := by
  have hfit := h.fit
  obtain ⟨ao, cap, rfl, _⟩ := owned_form h.own
  obtain ⟨N, hN⟩ : ∃ N, l.length = N := ⟨_, rfl⟩
  have HAT := Lib.hid (fun (q : Nat) (y : Bk) (e : l[q]? = some y) => flat_at bC 3 bC_len h.own e (by omega))
  have hhd := h.hd
  have hfew := h.few
  rw [hN] at hhd hfew
  have c3 : w.cell? ⟨ab, 3, none⟩ = some (.slice ao N cap) := cell_of_block hhd 3
  have HN := Lib.hid hN
  have HFIT := Lib.hid hfit
  clear h hfit hN hhd
  go_enter Tryd.func45, Tryd.ntmps45
  go_wp2_with fail
  go_loop [3, 4] (fun s i => ∃ k : Nat, k ≤ N ∧ i = .int .i64 k ∧ s = .int .i64 (usedN (l.take k))) (fun _ i => N - (intOf i).toNat)
  case atStart => exact ⟨0, by omega, rfl, rfl⟩
  case round =>
    obtain ⟨k, hk, rfl, rfl⟩ := hrel
    by_cases hlt : k < N
    · obtain ⟨b, hb⟩ : ∃ b, l[k]? = some b := ⟨l[k]'(by rw [HN.out]; omega), by simp⟩
      obtain ⟨g, rfl, hgl, hc⟩ := HAT.out k b hb
      have x1 : w.cell? ⟨g, k * 3 + 1, none⟩ = some (.int .i64 b.num) := hc 1 _ rfl
      have hlo := HFIT.out.lo
      have hub1 := HFIT.out.usedPre (List.take_prefix k l)
      have hub2 := HFIT.out.usedPre (List.take_prefix (k + 1) l)
      have hU : usedN (l.take (k + 1)) = usedN (l.take k) + b.num := by rw [takeB hb, usedN_snoc]
      rw [hU] at hub2
      have HU := Lib.hid hU
      generalize hS : usedN (l.take k) = S at hub1 hub2 HU ⊢
      generalize hC : b.num = C at x1 hub2 HU
      have q1 : (0 : Int) ≤ (k : Int) := by omega
      have q2 : (k : Int) < (N : Int) := by omega
      have t0 : IntKind.i64.wrap (S + C) = S + C := IntWalk.i64_in _ (by omega)
      clear hb hc hS hC hU
      go_wp2_with fail
      go_round
      case rel => exact ⟨k + 1, by omega, by go_num, by rw [HU.out]⟩
      case measure => simp [intOf]; omega
    · obtain rfl : k = N := by omega
      rw [show l.take k = l from List.take_of_length_le (by rw [HN.out]; exact Nat.le_refl _)]
      go_wp2_with fail
      go_ret
      exact ⟨rfl, rfl⟩

set_option maxRecDepth 100000 in
set_option maxHeartbeats 4000000 in
theorem rwidest_any (ab mb wb hb : Nat) (v : Value) (F T : Int) (l : List Bk) (ws : List Nat) (w : World) (h : RAM w ab mb wb hb v F T l ws) :
    Calls Tryd.prog 46 #[.pointer (some ⟨ab, 0, none⟩)] w fun e w' => e = .returned (.int .i64 (wideN F T l (l.length + 1))) ∧ New w w' := by
  have hst := fun i => h.fit.start i
  have hen := fun i (hi : i ≤ l.length) => h.fit.end_ hi
  have hwb := fun k hk => wideN_bound h.fit k hk
  have hws := fun k => show wideN F T l (k + 1) = max (wideN F T l k) (gapA F T l k) from rfl
  have hinn := h.fit.inn
  have hlo := h.fit.lo
  have hfew := h.few
  obtain ⟨ao, cap, rfl, _⟩ := owned_form h.own
  obtain ⟨N, hN⟩ : ∃ N, l.length = N := ⟨_, rfl⟩
  have HAT := Lib.hid (fun (q : Nat) (y : Bk) (e : l[q]? = some y) => flat_at bC 3 bC_len h.own e (by omega))
  have hhd := h.hd
  have la := lt_of_block h.hd
  rw [hN] at hhd hfew ⊢
  have HHD := Lib.hid hhd
  have HN := Lib.hid hN
  have HEN := Lib.hid hen
  have HWB := Lib.hid hwb
  have HWS := Lib.hid hws
  have HINN := Lib.hid hinn
  have c1 : w.drew.cell? ⟨ab, 1, none⟩ = some (.int .i64 F) := cell_of_block hhd 1
  have c1' : w.cell? ⟨ab, 1, none⟩ = some (.int .i64 F) := cell_of_block hhd 1
  clear h hst hen hN hhd hwb hws hinn
  go_enter Tryd.func46, Tryd.ntmps46
  go_wp2_with fail
  go_quiet (fail)
  have HN0 := Lib.hid ((Fr.refl (fun _ => False) w).drewN nq)
  generalize w.drewN nq = w0 at HN0 ⊢
  clear c1 c1'
  go_wp2_with fail
  go_loopw [3, 4, 5] (fun m at_ i wr => ∃ k : Nat, k ≤ N ∧ i = .int .i64 k ∧ at_ = .int .i64 (endA F l k) ∧ m = .int .i64 (wideN F T l k) ∧ New w wr) (fun _ _ i _ => N - (intOf i).toNat)
  case atStart => exact ⟨0, by omega, rfl, rfl, rfl, HN0.out⟩
  case round =>
    obtain ⟨k, hk, rfl, rfl, rfl, hn⟩ := hrel
    have c3 : wr.cell? ⟨ab, 3, none⟩ = some (.slice ao N cap) := (hn.cell la id 3).trans (cell_of_block HHD.out 3)
    have c2 : wr.cell? ⟨ab, 2, none⟩ = some (.int .i64 T) := (hn.cell la id 2).trans (cell_of_block HHD.out 2)
    have HNW := Lib.hid hn
    have he := HEN.out k (by rw [HN.out]; exact hk)
    have hb0 := HWB.out k (by rw [HN.out]; omega)
    have hb1 := HWS.out k
    by_cases hlt : k < N
    · obtain ⟨b, hb⟩ : ∃ b, l[k]? = some b := ⟨l[k]'(by rw [HN.out]; omega), by simp⟩
      obtain ⟨g, rfl, hgl, hc⟩ := HAT.out k b hb
      have x0 : wr.cell? ⟨g, k * 3, none⟩ = some (.int .i64 b.pos) := (hn.cell hgl id _).trans (hc 0 _ rfl)
      have x1 : wr.cell? ⟨g, k * 3 + 1, none⟩ = some (.int .i64 b.num) := (hn.cell hgl id _).trans (hc 1 _ rfl)
      have hin := HINN.out b (List.mem_of_getElem? hb)
      have hE := endA_succ (F := F) hb
      have hgp : gapA F T l k = b.pos - endA F l k := by unfold gapA startA; rw [hb]
      rw [hgp] at hb1
      generalize endA F l k = E at he hb1 ⊢
      generalize b.pos = P at x0 hin hE hb1
      generalize b.num = C at x1 hin hE
      generalize wideN F T l k = m at hb0 hb1 ⊢
      have q1 : (0 : Int) ≤ (k : Int) := by omega
      have q2 : (k : Int) < (N : Int) := by omega
      have t0 : IntKind.i64.wrap (P - E) = P - E := IntWalk.i64_in _ (by omega)
      have t1 : IntKind.i64.wrap (P + C) = P + C := IntWalk.i64_in _ (by omega)
      have HE := Lib.hid hE
      have HB1 := Lib.hid hb1
      clear hb hc hn hin hE hgp hb1
      rcases (show (m < P - E ∧ max m (P - E) = P - E) ∨ (¬ m < P - E ∧ max m (P - E) = m) by omega) with ⟨hmx, hmy⟩ | ⟨hmx, hmy⟩
      all_goals
        have HMY := Lib.hid hmy
        clear hmy
        go_wp2_with fail
        go_quiet (fail)
        go_wp2_with fail
        go_roundw
        case rel => exact ⟨k + 1, by omega, by go_num, by rw [HE.out], by rw [HB1.out, HMY.out], HNW.out.drewN _⟩
        case measure => simp [intOf]; omega
    · obtain rfl : k = N := by omega
      have hgp : gapA F T l k = T - endA F l k := by
        unfold gapA startA
        rw [List.getElem?_eq_none (by rw [HN.out]; exact Nat.le_refl _)]
      rw [hgp] at hb1
      generalize endA F l k = E at he hb1 ⊢
      have t0 : IntKind.i64.wrap (T - E) = T - E := IntWalk.i64_in _ (by omega)
      have HB1 := Lib.hid hb1
      generalize wideN F T l k = m at hb0 HB1 ⊢
      clear hn hgp hb1
      rcases (show (m < T - E ∧ max m (T - E) = T - E) ∨ (¬ m < T - E ∧ max m (T - E) = m) by omega) with ⟨hmx, hmy⟩ | ⟨hmx, hmy⟩
      all_goals
        have HMY := Lib.hid hmy
        clear hmy
        go_wp2_with fail
        go_ret
        exact ⟨ret_int (by rw [HB1.out, HMY.out]), HNW.out⟩

set_option maxRecDepth 100000 in
set_option maxHeartbeats 2000000 in
theorem rput_none (ab mb wb hb : Nat) (v : Value) (F T : Int) (l : List Bk) (ws : List Nat) (p : Int) (w : World) (h : RAM w ab mb wb hb v F T l ws) (hi : posI l p = none) :
    Calls Tryd.prog 26 #[.pointer (some ⟨ab, 0, none⟩), .int .i64 p] w fun e w' => ∃ f, e = .returned f ∧ TellsF w' f (some ([(alL, p)], 4)) ∧ New w w' := by
  have hno := posI_none hi
  obtain ⟨ao, cap, rfl, _⟩ := owned_form h.own
  obtain ⟨N, hN⟩ : ∃ N, l.length = N := ⟨_, rfl⟩
  have HAT := Lib.hid (fun (q : Nat) (y : Bk) (e : l[q]? = some y) => flat_at bC 3 bC_len h.own e (by omega))
  have hhd := h.hd
  have hfew := h.few
  rw [hN] at hhd hfew
  have c3 : w.cell? ⟨ab, 3, none⟩ = some (.slice ao N cap) := cell_of_block hhd 3
  have HN := Lib.hid hN
  have HNO := Lib.hid hno
  clear h hN hhd hno hi
  go_enter Tryd.func26, Tryd.ntmps26
  go_wp2_with fail
  go_loop [5] (fun i => ∃ k : Nat, k ≤ N ∧ i = .int .i64 k) (fun i => N - (intOf i).toNat)
  case atStart => exact ⟨0, by omega, rfl⟩
  case round =>
    obtain ⟨k, hk, rfl⟩ := hrel
    by_cases hlt : k < N
    · obtain ⟨b, hb⟩ : ∃ b, l[k]? = some b := ⟨l[k]'(by rw [HN.out]; omega), by simp⟩
      obtain ⟨g, rfl, hgl, hc⟩ := HAT.out k b hb
      have x0 : w.cell? ⟨g, k * 3, none⟩ = some (.int .i64 b.pos) := hc 0 _ rfl
      have q1 : (0 : Int) ≤ (k : Int) := by omega
      have q2 : (k : Int) < (N : Int) := by omega
      have t0 : (b.pos == p) = false := by rw [beq_eq_false_iff_ne]; exact HNO.out b (List.mem_of_getElem? hb)
      clear hb hc
      go_wp2_with fail
      go_round
      case rel => exact ⟨k + 1, by omega, by go_num⟩
      case measure => simp [intOf]; omega
    · obtain rfl : k = N := by omega
      go_wp2_with (go_at_call 16; refine (no_says _ _ _ _).mono ?_; rintro e w' ⟨v, rfl, he, hn⟩)
      go_ret
      exact ⟨_, rfl, failN_of he, hn⟩

/-- What Put answers where a block begins, and what it leaves. -/
def RPutIt (w : World) (ab mb wb hb : Nat) (F T : Int) (l : List Bk) (ws : List Nat) (p : Int) (i : Nat) (b : Bk) (oe : Option (Int × Int)) (e : Ending) (w' : World) : Prop :=
  ∃ f v', e = .returned f ∧ TellsF w' f (inL alL p memL oe) ∧ RAM w' ab mb wb hb v' F T (l.eraseIdx i) (if oe = none then fill ws p.toNat b.num.toNat 0 else ws) ∧ Fr (OwnR ab wb hb) w w' ∧ ∀ k, v'.ownBlock = some k → w.heap.size ≤ k

set_option maxRecDepth 100000 in
set_option maxHeartbeats 8000000 in
theorem rput_some (ab mb wb hb : Nat) (v : Value) (F T : Int) (l : List Bk) (ws : List Nat) (p : Int) (i : Nat) (b : Bk) (w : World) (h : RAM w ab mb wb hb v F T l ws) (hlb : l[i]? = some b) (hbp : b.pos = p) (hno : ∀ j x, j < i → l[j]? = some x → x.pos ≠ p) :
    Calls Tryd.prog 26 #[.pointer (some ⟨ab, 0, none⟩), .int .i64 p] w fun e w' => RPutIt w ab mb wb hb F T l ws p i b (unmapErr ws b.pos b.num) e w' := by
  obtain ⟨ao, cap, rfl, _⟩ := owned_form h.own
  have hcap := doc_cap h.own
  obtain ⟨N, hN⟩ : ∃ N, l.length = N := ⟨_, rfl⟩
  have HAT := Lib.hid (fun (q : Nat) (y : Bk) (e : l[q]? = some y) => flat_at bC 3 bC_len h.own e (by omega))
  have hhd := h.hd
  have hfew := h.few
  have hin := h.fit.inn b (List.mem_of_getElem? hlb)
  have hlo := h.fit.lo
  have hfi := h.fit.erase i
  have la := lt_of_block h.hd
  have hil := (List.getElem?_eq_some_iff.1 hlb).1
  obtain ⟨i0, hi, hz0, hz1, hz2⟩ := info_parts rblkInfo
  obtain ⟨cs, M, hm⟩ := h.m
  have hap := h.ap
  have hUN := fun w' (f : New w w') => runmap_any mb wb hb cs ws M b.pos b.num w' (hm.keep f id id id) (by omega) (by omega)
  have HOWN := Lib.hid h.own
  rw [hN] at hhd hfew hcap hil hap HOWN
  have HLT := Lib.hid (fun k (hk : k ≤ N) => show ((l.take k).flatMap bC).length = k * 3 by rw [len_flatMap bC 3 bC_len, List.length_take, hN, Nat.min_eq_left hk])
  have HLD := Lib.hid (fun k (hk : k ≤ N) => show ((l.drop k).flatMap bC).length = (N - k) * 3 by rw [len_flatMap bC 3 bC_len, List.length_drop, hN])
  have HHD := Lib.hid hhd
  have H := Lib.hid h
  have HN := Lib.hid hN
  have HNO := Lib.hid hno
  have HB := Lib.hid hlb
  have HM := Lib.hid hm
  have HAP := Lib.hid hap
  have HFI := Lib.hid hfi
  have HUN := Lib.hid hUN
  have HBP := Lib.hid hbp
  rw [hbp] at HUN hin ⊢
  generalize hoe : unmapErr ws p b.num = oe at HUN ⊢
  clear h hlb hbp hno hN hm hUN hap hfi hoe hhd
  go_enter Tryd.func26, Tryd.ntmps26
  have c3 : w.cell? ⟨ab, 3, none⟩ = some (.slice ao N cap) := cell_of_block HHD.out 3
  go_wp2_with fail
  go_loop [5] (fun s => ∃ k : Nat, k ≤ i ∧ s = .int .i64 k) (fun s => N - (intOf s).toNat)
  case atStart => exact ⟨0, by omega, rfl⟩
  case round =>
    obtain ⟨k, hk, rfl⟩ := hrel
    have q1 : (0 : Int) ≤ (k : Int) := by omega
    have q2 : (k : Int) < (N : Int) := by omega
    by_cases hlt : k < i
    · obtain ⟨b2, hb⟩ : ∃ b, l[k]? = some b := ⟨l[k]'(by rw [HN.out]; omega), by simp⟩
      obtain ⟨g, rfl, hgl, hc⟩ := HAT.out k b2 hb
      have x0 : w.cell? ⟨g, k * 3, none⟩ = some (.int .i64 b2.pos) := hc 0 _ rfl
      have t0 : (b2.pos == p) = false := by rw [beq_eq_false_iff_ne]; exact HNO.out k b2 hlt hb
      clear hb hc
      go_wp2_with fail
      go_round
      case rel => exact ⟨k + 1, by omega, by go_num⟩
      case measure => simp [intOf]; omega
    · obtain rfl : i = k := by omega
      obtain ⟨g, rfl, hgl, hc⟩ := HAT.out i b HB.out
      have x0 : w.cell? ⟨g, i * 3, none⟩ = some (.int .i64 b.pos) := hc 0 _ rfl
      have x1 : w.cell? ⟨g, i * 3 + 1, none⟩ = some (.int .i64 b.num) := hc 1 _ rfl
      have t0 : (b.pos == p) = true := by rw [beq_iff_eq]; exact HBP.out
      clear hc hlt hk
      go_wp2_with fail
      have n0 : New w w.drew := (Fr.refl _ _).drew
      have HN0 := Lib.hid n0
      have s0 : w.drew.cell? ⟨ab, 0, none⟩ = some (.pointer (some ⟨mb, 0, none⟩)) ∧ w.drew.cell? ⟨ab, 3, none⟩ = some (.slice (some ⟨g, 0, none⟩) N cap) ∧ w.drew.cell? ⟨g, i * 3 + 1, none⟩ = some (.int .i64 b.num) := ⟨cell_of_block HHD.out 0, c3, x1⟩
      refine heldStart (fun wz => wz.cell? ⟨ab, 0, none⟩ = some (.pointer (some ⟨mb, 0, none⟩)) ∧ wz.cell? ⟨ab, 3, none⟩ = some (.slice (some ⟨g, 0, none⟩) N cap) ∧ wz.cell? ⟨g, i * 3 + 1, none⟩ = some (.int .i64 b.num)) (by kernel_rfl) ?_
      clear x0 x1 t0 c3
      refine wpAnyH_take (i := 0) (v := ?_) rfl (by kernel_rfl) (by kernel_rfl) (by kernel_rfl) (fun _ _ _ h => h) (Or.inl ⟨by rfl, ?_⟩) s0 ?_
      rotate_left
      · intro w hSw; first | (obtain ⟨s1, s2, s3, s4, s5, s6, s7, s8⟩ := hSw; go_simp; rfl) | (obtain ⟨s1, s2, s3, s4, s5, s6, s7⟩ := hSw; go_simp; rfl) | (obtain ⟨s1, s2, s3⟩ := hSw; go_simp; rfl) | (obtain ⟨s1, s2⟩ := hSw; go_simp; rfl) | (have s1 := hSw; go_simp; rfl)
      go_simp
      refine wpAnyH_take (i := 1) (v := ?_) rfl (by kernel_rfl) (by kernel_rfl) (by kernel_rfl) (fun _ _ _ h => h) (Or.inl ⟨by rfl, ?_⟩) s0 ?_
      rotate_left
      · intro w hSw; first | (obtain ⟨s1, s2, s3, s4, s5, s6, s7, s8⟩ := hSw; go_simp; rfl) | (obtain ⟨s1, s2, s3, s4, s5, s6, s7⟩ := hSw; go_simp; rfl) | (obtain ⟨s1, s2, s3⟩ := hSw; go_simp; rfl) | (obtain ⟨s1, s2⟩ := hSw; go_simp; rfl) | (have s1 := hSw; go_simp; rfl)
      go_simp
      refine wpAnyH_take (i := 2) (v := ?_) rfl (by kernel_rfl) (by kernel_rfl) (by kernel_rfl) (fun _ _ _ h => h) (Or.inl ⟨by rfl, ?_⟩) s0 ?_
      rotate_left
      · intro w hSw; first | (obtain ⟨s1, s2, s3, s4, s5, s6, s7, s8⟩ := hSw; go_simp; rfl) | (obtain ⟨s1, s2, s3, s4, s5, s6, s7⟩ := hSw; go_simp; rfl) | (obtain ⟨s1, s2, s3⟩ := hSw; go_simp; rfl) | (obtain ⟨s1, s2⟩ := hSw; go_simp; rfl) | (have s1 := hSw; go_simp; rfl)
      go_simp
      refine wpAnyH_take (i := 3) (v := ?_) rfl (by kernel_rfl) (by kernel_rfl) (by kernel_rfl) (fun _ _ _ h => h) (Or.inl ⟨by rfl, ?_⟩) s0 ?_
      rotate_left
      · intro w hSw; first | (obtain ⟨s1, s2, s3, s4, s5, s6, s7, s8⟩ := hSw; go_simp; rfl) | (obtain ⟨s1, s2, s3, s4, s5, s6, s7⟩ := hSw; go_simp; rfl) | (obtain ⟨s1, s2, s3⟩ := hSw; go_simp; rfl) | (obtain ⟨s1, s2⟩ := hSw; go_simp; rfl) | (have s1 := hSw; go_simp; rfl)
      go_simp
      refine wpAnyH_take (i := 4) (v := ?_) rfl (by kernel_rfl) (by kernel_rfl) (by kernel_rfl) (fun _ _ _ h => h) (Or.inl ⟨by rfl, ?_⟩) s0 ?_
      rotate_left
      · intro w hSw; first | (obtain ⟨s1, s2, s3, s4, s5, s6, s7, s8⟩ := hSw; go_simp; rfl) | (obtain ⟨s1, s2, s3, s4, s5, s6, s7⟩ := hSw; go_simp; rfl) | (obtain ⟨s1, s2, s3⟩ := hSw; go_simp; rfl) | (obtain ⟨s1, s2⟩ := hSw; go_simp; rfl) | (have s1 := hSw; go_simp; rfl)
      go_simp
      refine wpAnyH_take (i := 5) (v := ?_) rfl (by kernel_rfl) (by kernel_rfl) (by kernel_rfl) (fun _ _ _ h => h) (Or.inl ⟨by rfl, ?_⟩) s0 ?_
      rotate_left
      · intro w hSw; first | (obtain ⟨s1, s2, s3, s4, s5, s6, s7, s8⟩ := hSw; go_simp; rfl) | (obtain ⟨s1, s2, s3, s4, s5, s6, s7⟩ := hSw; go_simp; rfl) | (obtain ⟨s1, s2, s3⟩ := hSw; go_simp; rfl) | (obtain ⟨s1, s2⟩ := hSw; go_simp; rfl) | (have s1 := hSw; go_simp; rfl)
      go_simp
      refine wpAnyH_take (i := 6) (v := ?_) rfl (by kernel_rfl) (by kernel_rfl) (by kernel_rfl) (fun _ _ _ h => h) (Or.inl ⟨by rfl, ?_⟩) s0 ?_
      rotate_left
      · intro w hSw; first | (obtain ⟨s1, s2, s3, s4, s5, s6, s7, s8⟩ := hSw; go_simp; rfl) | (obtain ⟨s1, s2, s3, s4, s5, s6, s7⟩ := hSw; go_simp; rfl) | (obtain ⟨s1, s2, s3⟩ := hSw; go_simp; rfl) | (obtain ⟨s1, s2⟩ := hSw; go_simp; rfl) | (have s1 := hSw; go_simp; rfl)
      go_simp
      refine wpAnyH_take (i := 7) (v := ?_) rfl (by kernel_rfl) (by kernel_rfl) (by kernel_rfl) (fun _ _ _ h => h) (Or.inl ⟨by rfl, ?_⟩) s0 ?_
      rotate_left
      · intro w hSw; first | (obtain ⟨s1, s2, s3, s4, s5, s6, s7, s8⟩ := hSw; go_simp; rfl) | (obtain ⟨s1, s2, s3, s4, s5, s6, s7⟩ := hSw; go_simp; rfl) | (obtain ⟨s1, s2, s3⟩ := hSw; go_simp; rfl) | (obtain ⟨s1, s2⟩ := hSw; go_simp; rfl) | (have s1 := hSw; go_simp; rfl)
      go_simp
      refine wpAnyH_take (i := 8) (v := ?_) rfl (by kernel_rfl) (by kernel_rfl) (by kernel_rfl) (fun _ _ _ h => h) (Or.inl ⟨by rfl, ?_⟩) s0 ?_
      rotate_left
      · intro w hSw; first | (obtain ⟨s1, s2, s3, s4, s5, s6, s7, s8⟩ := hSw; go_simp; rfl) | (obtain ⟨s1, s2, s3, s4, s5, s6, s7⟩ := hSw; go_simp; rfl) | (obtain ⟨s1, s2, s3⟩ := hSw; go_simp; rfl) | (obtain ⟨s1, s2⟩ := hSw; go_simp; rfl) | (have s1 := hSw; go_simp; rfl)
      go_simp
      refine wpAnyH_take (i := 9) (v := ?_) rfl (by kernel_rfl) (by kernel_rfl) (by kernel_rfl) (fun _ _ _ h => h) (Or.inl ⟨by rfl, ?_⟩) s0 ?_
      rotate_left
      · intro w hSw; first | (obtain ⟨s1, s2, s3, s4, s5, s6, s7, s8⟩ := hSw; go_simp; rfl) | (obtain ⟨s1, s2, s3, s4, s5, s6, s7⟩ := hSw; go_simp; rfl) | (obtain ⟨s1, s2, s3⟩ := hSw; go_simp; rfl) | (obtain ⟨s1, s2⟩ := hSw; go_simp; rfl) | (have s1 := hSw; go_simp; rfl)
      go_simp
      refine wpAnyH_take (i := 10) (v := ?_) rfl (by kernel_rfl) (by kernel_rfl) (by kernel_rfl) (fun _ _ _ h => h) (Or.inl ⟨by rfl, ?_⟩) s0 ?_
      rotate_left
      · intro w hSw; first | (obtain ⟨s1, s2, s3, s4, s5, s6, s7, s8⟩ := hSw; go_simp; rfl) | (obtain ⟨s1, s2, s3, s4, s5, s6, s7⟩ := hSw; go_simp; rfl) | (obtain ⟨s1, s2, s3⟩ := hSw; go_simp; rfl) | (obtain ⟨s1, s2⟩ := hSw; go_simp; rfl) | (have s1 := hSw; go_simp; rfl)
      go_simp
      refine wpAnyH_take (i := 11) (v := ?_) rfl (by kernel_rfl) (by kernel_rfl) (by kernel_rfl) (fun _ _ _ h => h) (Or.inl ⟨by rfl, ?_⟩) s0 ?_
      rotate_left
      · intro w hSw; first | (obtain ⟨s1, s2, s3, s4, s5, s6, s7, s8⟩ := hSw; go_simp; rfl) | (obtain ⟨s1, s2, s3, s4, s5, s6, s7⟩ := hSw; go_simp; rfl) | (obtain ⟨s1, s2, s3⟩ := hSw; go_simp; rfl) | (obtain ⟨s1, s2⟩ := hSw; go_simp; rfl) | (have s1 := hSw; go_simp; rfl)
      go_simp
      refine wpAnyH_take (i := 12) (v := ?_) rfl (by kernel_rfl) (by kernel_rfl) (by kernel_rfl) (fun _ _ _ h => h) (Or.inl ⟨by rfl, ?_⟩) s0 ?_
      rotate_left
      · intro w hSw; first | (obtain ⟨s1, s2, s3, s4, s5, s6, s7, s8⟩ := hSw; go_simp; rfl) | (obtain ⟨s1, s2, s3, s4, s5, s6, s7⟩ := hSw; go_simp; rfl) | (obtain ⟨s1, s2, s3⟩ := hSw; go_simp; rfl) | (obtain ⟨s1, s2⟩ := hSw; go_simp; rfl) | (have s1 := hSw; go_simp; rfl)
      go_simp
      refine heldOne (i := 13) (by kernel_rfl) rfl (by rfl) (fun K hK => ?_)
      go_simp
      refine (HUN.out _ n0).mono ?_
      rintro e w1 ⟨f, rfl, hx, hr, hf⟩
      have f01 : Fr (fun k => k = wb ∨ k = hb) w w1 := (n0.mono (fun _ _ h => h.elim)).trans (hf.mono (fun _ _ e => e.2))
      obtain ⟨p1, p2, p3, p4⟩ := HAP.out
      have hb1 : w1.heap[ab]? = some (.cells #[.pointer (some ⟨mb, 0, none⟩), .int .i64 F, .int .i64 T, .slice (some ⟨g, 0, none⟩) N cap] 97 (0, 0)) := (f01.block ab la (by omega)).trans HHD.out
      have hown1 := own_kept HOWN.out f01 (fun k hk e => by have := p4 k hk; omega)
      have s1 : w1.cell? ⟨ab, 0, none⟩ = some (.pointer (some ⟨mb, 0, none⟩)) ∧ w1.cell? ⟨ab, 3, none⟩ = some (.slice (some ⟨g, 0, none⟩) N cap) ∧ w1.cell? ⟨g, i * 3 + 1, none⟩ = some (.int .i64 b.num) := by
        obtain ⟨g', e', _, hc'⟩ := flat_at bC 3 bC_len hown1 HB.out (by omega)
        cases e'
        exact ⟨cell_of_block hb1 0, cell_of_block hb1 3, hc' 1 _ rfl⟩
      refine hK.out _ _ s1 ?_
      clear hK K s0
      refine wpAnyH_take (i := 14) (v := ?_) rfl (by kernel_rfl) (by kernel_rfl) (by kernel_rfl) (fun _ _ _ h => h) (Or.inl ⟨by rfl, ?_⟩) s1 ?_
      rotate_left
      · intro w hSw; first | (obtain ⟨s1, s2, s3, s4, s5, s6, s7, s8⟩ := hSw; go_simp; rfl) | (obtain ⟨s1, s2, s3, s4, s5, s6, s7⟩ := hSw; go_simp; rfl) | (obtain ⟨s1, s2, s3⟩ := hSw; go_simp; rfl) | (obtain ⟨s1, s2⟩ := hSw; go_simp; rfl) | (have s1 := hSw; go_simp; rfl)
      go_simp
      refine wpAnyH_done (by kernel_rfl) ?_ _
      have hlt1 : i + 1 ≤ N := hil
      have l1 := lt_of_block hb1
      have hs1 : Src w1 (some ⟨g, 0, none⟩) i cap ((l.take i).flatMap bC) := by rw [← flat_take' bC 3 bC_len]; exact (Src.of_own hown1).take (by omega) _
      have hs2 := (Src.of_own hown1).drop (k := i + 1) (size := 3) hown1.1 hlt1 hcap
      rw [flat_drop' bC 3 bC_len] at hs2
      have HX := Lib.hid hx
      have hrm : ∃ cs', RefRep w1 mb wb hb cs' (if oe = none then fill ws p.toNat b.num.toNat 0 else ws) M := by
        split at hr
        · rename_i h0; rw [if_pos h0]; exact ⟨_, hr⟩
        · rename_i h0; rw [if_neg h0]; exact ⟨_, hr⟩
      obtain ⟨cs', hrm⟩ := hrm
      have HR := Lib.hid hrm
      have F01 := Lib.hid f01
      have B1 := Lib.hid hb1
      have hlen := HLT.out i (by omega)
      have hlen2 := HLD.out (i + 1) hlt1
      have hown := World.ownsRow_nil w1 w1.heap.size 98 3
      have HCAT := Lib.hid (show (l.take i).flatMap bC ++ (l.drop (i + 1)).flatMap bC = (l.eraseIdx i).flatMap bC by rw [← List.flatMap_append, List.eraseIdx_eq_take_drop_succ])
      have hel : (l.eraseIdx i).length = N - 1 := by rw [List.length_eraseIdx, HN.out, if_pos hil]
      have HEL := Lib.hid hel
      have hr0 := HM.out.hd.lt
      have hr1 := HM.out.widths.lt
      have hr2 := HM.out.holds.lt
      have hsz := F01.out.size
      have hgl1 : g < w1.heap.size := by omega
      have c3 := s1.2.1
      have HS1 := Lib.hid hs1
      have HLEN := Lib.hid hlen
      have q5 : (i : Int) ≤ (cap : Int) := by omega
      have q6 : (i : Int) + 1 ≤ (N : Int) := by omega
      have q7 : (N : Int) ≤ (cap : Int) := by omega
      clear hx hr hf f01 hb1 hown1 hrm hs1 hlen hel s1 n0
      by_cases hc : cap = i + 1
      · rw [if_pos hc] at hs2
        obtain rfl : N = i + 1 := by omega
        obtain rfl : i + 1 = cap := hc.symm
        have HS2 := Lib.hid (show Src w1 (some ⟨g, 0, none⟩) 0 0 ((l.drop (i + 1)).flatMap bC) from hs2.cast (by first | rfl | exact map_add _ _) (by omega) (by omega) rfl)
        have HLEN2 := Lib.hid (show ((l.drop (i + 1)).flatMap bC).length = 0 * 3 from by omega)
        clear hs2 hlen2
        go_wp2_with (first
          | (at_builtin; refine wpList_append_src rfl (.tmp 41) (.tmp 47) 95 rfl w1.heap.size 98 i0 _ 3 24 Tryd.underlying95 hi hz0 hz1 hz2 rfl (by decide) _ _ _ rfl hown (some ⟨g, 0, none⟩) i (i + 1) ((l.take i).flatMap bC) rfl HLEN.out HS1.out (bC_one _) (by unfold maxLen; omega) (by omega) (Nat.le_refl _) ?_; intro v1 w2 hown2 hgrow2; rw [List.nil_append, Nat.zero_add] at hown2; have f2 : Fr (fun k => w1.heap.size ≤ k) w1 w2 := (Fr.refl _ w1).grown hgrow2 (fun k hk _ => by cases hk); have b2 := (f2.block ab l1 (by omega)).trans B1.out; have l2 := lt_of_block b2; have d3 : w2.cell? ⟨ab, 3, none⟩ = some (.slice (some ⟨g, 0, none⟩) (i + 1) (i + 1)) := cell_of_block b2 3; obtain ⟨ao1, cap1, rfl, _⟩ := owned_form hown2; have HO2 := Lib.hid hown2; have F2 := Lib.hid f2; have B2 := Lib.hid b2; clear hgrow2 hown2 f2 b2 hown)
          | (at_builtin; refine wpList_append_src rfl (.tmp 50) (.tmp 57) 95 rfl w1.heap.size 98 i0 _ 3 24 Tryd.underlying95 hi hz0 hz1 hz2 rfl (by decide) _ _ _ rfl HO2.out (some ⟨g, 0, none⟩) 0 0 ((l.drop (i + 1)).flatMap bC) rfl HLEN2.out (HS2.out.keep F2.out (fun ad e hk => by cases e; exact absurd hk (by show ¬ w1.heap.size ≤ g; omega))) (bC_one _) (by unfold maxLen; omega) (by omega) (by have := F2.out.size; omega) ?_; intro v3 w4 hown4 hgrow4; have f4 : Fr (fun k => w1.heap.size ≤ k) w2 w4 := (Fr.refl _ w2).grown hgrow4 (fun k hk _ => (HO2.out.lt k hk).1); have b4 := (f4.block ab l2 (by omega)).trans B2.out; have l4 := lt_of_block b4; have y4 := free_of_block b4 3; have x4 : w4.cell? ⟨ab, 3, none⟩ = some _ := cell_of_block b4 3; obtain ⟨ao3, cap3, rfl, _⟩ := owned_form hown4; have HO4 := Lib.hid hown4; have F4 := Lib.hid f4; have B4 := Lib.hid b4; clear hgrow4 hown4 f4 b4 d3 l2))
        have ho := HO4.out
        rw [HCAT.out] at ho
        have f14 : Fr (fun k => w1.heap.size ≤ k) w1 w4 := F2.out.trans F4.out
        have hend := ram_end H.out ((F01.out.mono (fun _ _ e => .inr e)).then f14 (fun k hk e => absurd e (by omega))) B4.out (ho.mono hsz) (by rw [HEL.out]; omega) (by omega) HFI.out (HR.out.keep f14 (by omega) (by omega) (by omega))
        have HEND := Lib.hid hend
        have hx5 := SaysF.keep (S := (· = ab)) (show Fr (fun x => x = ab) w1 (w4.setCell ⟨ab, 3, none⟩ (.slice ao3 (i + 0) cap3)) from Fr.setCell (S := fun x => x = ab) (f14.mono (fun k hk e => absurd e (by omega))) (fun _ => rfl) _) (fun b c hbc e => by
          subst e
          rw [B1.out] at hbc
          rcases hbc with h | h | h
          all_goals
            rw [Option.some.injEq, Obj.cells.injEq] at h
            exact absurd h.2.1 (by decide)) HX.out
        have HX5 := Lib.hid hx5
        clear hend ho
        rcases oe with _ | ⟨p', k'⟩
        · obtain rfl : f = .pointer none := hx5
          refine (in_nil _ _ _).mono ?_
          rintro e w' ⟨rfl, rfl⟩
          go_wp2
          go_ret
          exact ⟨_, _, rfl, rfl, by simpa using HEND.out.1, by simpa using HEND.out.2.1, fun k hk => HEND.out.2.2 k (by simpa using hk)⟩
        · clear hx5
          refine (in_any _ _ _ _ _ _ (failN_of HX5.out) (by simp)).mono ?_
          rintro e w' ⟨f', rfl, hf', hn'⟩
          go_wp2
          go_ret
          exact ⟨_, .slice ao3 (i + 0) cap3, rfl, hf', by simpa using HEND.out.1.new (by simpa using hn'), by simpa using HEND.out.2.1.trans (by simpa using hn'.mono (fun _ _ h => h.elim)), HEND.out.2.2⟩
      · rw [if_neg hc] at hs2
        have q8 : ¬ ((cap : Int) = (i : Int) + 1) := by omega
        have HS2 := Lib.hid (show Src w1 (some ⟨g, (i + 1) * 3, none⟩) (N - (i + 1)) (cap - (i + 1)) ((l.drop (i + 1)).flatMap bC) from hs2.cast (by first | rfl | exact map_add _ _) (by omega) (by omega) rfl)
        have HLEN2 := Lib.hid (show ((l.drop (i + 1)).flatMap bC).length = (N - (i + 1)) * 3 from by omega)
        clear hs2 hlen2
        go_wp2_with (first
          | (at_builtin; refine wpList_append_src rfl (.tmp 41) (.tmp 47) 95 rfl w1.heap.size 98 i0 _ 3 24 Tryd.underlying95 hi hz0 hz1 hz2 rfl (by decide) _ _ _ rfl hown (some ⟨g, 0, none⟩) i cap ((l.take i).flatMap bC) rfl HLEN.out HS1.out (bC_one _) (by unfold maxLen; omega) (by omega) (Nat.le_refl _) ?_; intro v1 w2 hown2 hgrow2; rw [List.nil_append, Nat.zero_add] at hown2; have f2 : Fr (fun k => w1.heap.size ≤ k) w1 w2 := (Fr.refl _ w1).grown hgrow2 (fun k hk _ => by cases hk); have b2 := (f2.block ab l1 (by omega)).trans B1.out; have l2 := lt_of_block b2; have d3 : w2.cell? ⟨ab, 3, none⟩ = some (.slice (some ⟨g, 0, none⟩) N cap) := cell_of_block b2 3; obtain ⟨ao1, cap1, rfl, _⟩ := owned_form hown2; have HO2 := Lib.hid hown2; have F2 := Lib.hid f2; have B2 := Lib.hid b2; clear hgrow2 hown2 f2 b2 hown)
          | (at_builtin; refine wpList_append_src rfl (.tmp 50) (.tmp 57) 95 rfl w1.heap.size 98 i0 _ 3 24 Tryd.underlying95 hi hz0 hz1 hz2 rfl (by decide) _ _ _ rfl HO2.out (some ⟨g, (i + 1) * 3, none⟩) (N - (i + 1)) (cap - (i + 1)) ((l.drop (i + 1)).flatMap bC) rfl HLEN2.out (HS2.out.keep F2.out (fun ad e hk => by cases e; exact absurd hk (by show ¬ w1.heap.size ≤ g; omega))) (bC_one _) (by unfold maxLen; omega) (by omega) (by have := F2.out.size; omega) ?_; intro v3 w4 hown4 hgrow4; have f4 : Fr (fun k => w1.heap.size ≤ k) w2 w4 := (Fr.refl _ w2).grown hgrow4 (fun k hk _ => (HO2.out.lt k hk).1); have b4 := (f4.block ab l2 (by omega)).trans B2.out; have l4 := lt_of_block b4; have y4 := free_of_block b4 3; have x4 : w4.cell? ⟨ab, 3, none⟩ = some _ := cell_of_block b4 3; obtain ⟨ao3, cap3, rfl, _⟩ := owned_form hown4; have HO4 := Lib.hid hown4; have F4 := Lib.hid f4; have B4 := Lib.hid b4; clear hgrow4 hown4 f4 b4 d3 l2))
        have ho := HO4.out
        rw [HCAT.out] at ho
        have f14 : Fr (fun k => w1.heap.size ≤ k) w1 w4 := F2.out.trans F4.out
        have hend := ram_end H.out ((F01.out.mono (fun _ _ e => .inr e)).then f14 (fun k hk e => absurd e (by omega))) B4.out (ho.mono hsz) (by rw [HEL.out]; omega) (by omega) HFI.out (HR.out.keep f14 (by omega) (by omega) (by omega))
        have HEND := Lib.hid hend
        have hx5 := SaysF.keep (S := (· = ab)) (show Fr (fun x => x = ab) w1 (w4.setCell ⟨ab, 3, none⟩ (.slice ao3 (i + (N - (i + 1))) cap3)) from Fr.setCell (S := fun x => x = ab) (f14.mono (fun k hk e => absurd e (by omega))) (fun _ => rfl) _) (fun b c hbc e => by
          subst e
          rw [B1.out] at hbc
          rcases hbc with h | h | h
          all_goals
            rw [Option.some.injEq, Obj.cells.injEq] at h
            exact absurd h.2.1 (by decide)) HX.out
        have HX5 := Lib.hid hx5
        clear hend ho
        rcases oe with _ | ⟨p', k'⟩
        · obtain rfl : f = .pointer none := hx5
          refine (in_nil _ _ _).mono ?_
          rintro e w' ⟨rfl, rfl⟩
          go_wp2
          go_ret
          exact ⟨_, _, rfl, rfl, by simpa using HEND.out.1, by simpa using HEND.out.2.1, fun k hk => HEND.out.2.2 k (by simpa using hk)⟩
        · clear hx5
          refine (in_any _ _ _ _ _ _ (failN_of HX5.out) (by simp)).mono ?_
          rintro e w' ⟨f', rfl, hf', hn'⟩
          go_wp2
          go_ret
          exact ⟨_, .slice ao3 (i + (N - (i + 1))) cap3, rfl, hf', by simpa using HEND.out.1.new (by simpa using hn'), by simpa using HEND.out.2.1.trans (by simpa using hn'.mono (fun _ _ h => h.elim)), HEND.out.2.2⟩

end Go.Proofs.YtlmjogfjhngcoaaDoor
