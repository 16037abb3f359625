/- The document's blocks: Get, Used, Widest. -/
import Derived.Test.YtlmjogfjhngcoaaDoorAllocE
import Derived.Test.YtlmjogfjhngcoaaDoorAllocG
import Derived.Test.YtlmjogfjhngcoaaDoorAllocH
import Derived.Deep.DeepCutAuto
import Derived.Deep.CutBlock
namespace Go.Proofs.YtlmjogfjhngcoaaDoor
open Go.RowKit

/-- The document's blocks over the document's memory. -/
structure RAM (w : World) (ab mb wb hb : Nat) (v : Value) (F T : Int) (l : List Bk) (ws : List Nat) : Prop where
  hd : w.heap[ab]? = some (.cells #[.pointer (some ⟨mb, 0, none⟩), .int .i64 F, .int .i64 T, v] 97 (0, 0))
  own : w.ownsRow 0 98 3 v l.length (l.flatMap bC)
  fit : Fits F T l
  few : l.length ≤ 100000
  m : ∃ cs N, RefRep w mb wb hb cs ws N
  ap : ab ≠ mb ∧ ab ≠ wb ∧ ab ≠ hb ∧ ∀ k, v.ownBlock = some k → k ≠ mb ∧ k ≠ wb ∧ k ≠ hb
/-- The blocks that a call may turn. -/
def OwnR (ab wb hb : Nat) (k : Nat) : Prop := k = ab ∨ k = wb ∨ k = hb
theorem RAM.keep {w w' : World} {ab mb wb hb : Nat} {v : Value} {F T : Int} {l : List Bk} {ws : List Nat} {S : Nat → Prop} (h : RAM w ab mb wb hb v F T l ws) (f : Fr S w w') (h1 : ¬ S ab) (h2 : ¬ S mb) (h3 : ¬ S wb) (h4 : ¬ S hb) (h5 : ∀ k, v.ownBlock = some k → ¬ S k) : RAM w' ab mb wb hb v F T l ws := by
  obtain ⟨cs, N, hm⟩ := h.m
  exact ⟨by rw [f.block ab (lt_of_block h.hd) h1]; exact h.hd, own_kept h.own f h5, h.fit, h.few, ⟨cs, N, hm.keep f h2 h3 h4⟩, h.ap⟩
theorem RAM.new {w w' : World} {ab mb wb hb : Nat} {v : Value} {F T : Int} {l : List Bk} {ws : List Nat} (h : RAM w ab mb wb hb v F T l ws) (f : New w w') : RAM w' ab mb wb hb v F T l ws := h.keep f id id id id (fun _ _ => id)
theorem rblkInfo : (Tryd.prog.info? 98).map (fun i => (i.zero, i.size, i.bytes)) = some (some (.agg #[.int .i64 0, .int .i64 0, .int .i64 0]), 3, 24) := by kernel_rfl

theorem ram_end {w w4 : World} {ab mb wb hb n N : Nat} {v0 v3 : Value} {F T : Int} {l L : List Bk} {cs ws ws' : List Nat} {v : Value} (h : RAM w ab mb wb hb v F T l ws) (f : Fr (OwnR ab wb hb) w w4)
    (hb4 : w4.heap[ab]? = some (.cells #[.pointer (some ⟨mb, 0, none⟩), .int .i64 F, .int .i64 T, v0] 97 (0, 0))) (hown : w4.ownsRow w.heap.size 98 3 v3 n (L.flatMap bC)) (hn : L.length = n) (hl : n ≤ 100000) (hfit : Fits F T L) (hm : RefRep w4 mb wb hb cs ws' N) :
    RAM (w4.setCell ⟨ab, 3, none⟩ v3) ab mb wb hb v3 F T L ws' ∧ Fr (OwnR ab wb hb) w (w4.setCell ⟨ab, 3, none⟩ v3) ∧ ∀ k, v3.ownBlock = some k → w.heap.size ≤ k := by
  subst hn
  obtain ⟨a1, a2, a3, _⟩ := h.ap
  obtain ⟨cs0, N0, hm0⟩ := h.m
  have l1 := hm0.hd.lt
  have l2 := hm0.widths.lt
  have l3 := hm0.holds.lt
  have f3 : Fr (· = ab) w4 (w4.setCell ⟨ab, 3, none⟩ v3) := (Fr.refl (· = ab) w4).setCell (fun _ => rfl) _
  have hk := fun k (hk : v3.ownBlock = some k) => (hown.lt k hk).1
  refine ⟨⟨block_setCell hb4 _, own_kept (hown.mono (Nat.zero_le _)) f3 (own_ne hown hb4 (by decide)), hfit, hl, ⟨cs, N, hm.keep f3 (fun e => a1 e.symm) (fun e => a2 e.symm) (fun e => a3 e.symm)⟩, a1, a2, a3, fun k e => ?_⟩, f.trans (f3.mono (fun _ _ e => .inl e)), hk⟩
  have := hk k e
  omega

/-- Where the search stops. -/
def stopI (F T : Int) (l : List Bk) (n : Int) : Nat := (getI F T l n).getD l.length
theorem stopI_le (F T : Int) (l : List Bk) (n : Int) : stopI F T l n ≤ l.length ∧ (∀ j, j < stopI F T l n → gapA F T l j < n) ∧ (stopI F T l n < l.length → n ≤ gapA F T l (stopI F T l n)) ∧ (stopI F T l n = l.length → (gapA F T l l.length < n ↔ getI F T l n = none)) ∧ (getI F T l n ≠ none → getI F T l n = some (stopI F T l n)) ∧ (stopI F T l n < l.length → getI F T l n ≠ none) := by
  unfold stopI
  cases h : getI F T l n with
  | none =>
    have hn := getI_none h
    refine ⟨Nat.le_refl _, fun j hj => hn j (by simpa using Nat.le_of_lt hj), fun hlt => absurd hlt (by simp), fun _ => by simpa using hn _ (Nat.le_refl _), fun h => absurd rfl h, fun hlt => absurd hlt (by simp)⟩
  | some i =>
    obtain ⟨h1, h2, h3⟩ := getI_some h
    refine ⟨h1, h3, fun _ => h2, fun e => ?_, fun _ => rfl, fun _ => by simp⟩
    have e : i = l.length := e
    subst e
    simp; omega

set_option maxRecDepth 100000 in
set_option maxHeartbeats 1000000 in
theorem rget_bad (ab : Nat) (n W : Int) (w : World) (h : badArg n W) :
    Calls Tryd.prog 31 #[.pointer (some ⟨ab, 0, none⟩), .int .i64 n, .int .i64 W] w fun e w' => ∃ f, e = .returned (.tuple #[.int .i64 0, f]) ∧ TellsF w' f (some ([(alL, 0)], 1)) ∧ New w w' := by
  unfold badArg at h
  have hc : n < 1 ∨ (1 ≤ n ∧ 4096 < n) ∨ (1 ≤ n ∧ n ≤ 4096 ∧ W ≠ 32 ∧ W ≠ 64) := by omega
  clear h
  rcases hc with h1 | ⟨h1, h2⟩ | ⟨h1, h2, h3, h4⟩
  · go_enter Tryd.func31, Tryd.ntmps31
    go_wp2_with (go_at_call 16; refine (no_says _ _ _ _).mono ?_; rintro e w' ⟨v, rfl, he, hn⟩)
    go_ret2
    exact ⟨_, rfl, failN_of he, hn⟩
  · go_enter Tryd.func31, Tryd.ntmps31
    go_wp2_with (go_at_call 16; refine (no_says _ _ _ _).mono ?_; rintro e w' ⟨v, rfl, he, hn⟩)
    go_ret2
    exact ⟨_, rfl, failN_of he, hn⟩
  · have t1 : (W != 32) = true := by rw [bne_iff_ne]; exact h3
    have t2 : (W != 64) = true := by rw [bne_iff_ne]; exact h4
    go_enter Tryd.func31, Tryd.ntmps31
    go_wp2_with (go_at_call 16; refine (no_says _ _ _ _).mono ?_; rintro e w' ⟨v, rfl, he, hn⟩)
    go_ret2
    exact ⟨_, rfl, failN_of he, hn⟩

/-- What Get answers and leaves. -/
def RGot (w : World) (ab mb wb hb : Nat) (v : Value) (F T : Int) (l : List Bk) (ws : List Nat) (n W : Int) (e : Ending) (w' : World) : Prop :=
  ∃ f v', e = .returned (.tuple #[.int .i64 (if getE F T l ws n W = none then gotP F T l n else 0), f]) ∧ TellsF w' f (getE F T l ws n W) ∧
    (if getE F T l ws n W = none then RAM w' ab mb wb hb v' F T (gotL F T l n W) (fill ws (gotP F T l n).toNat n.toNat W.toNat) else v' = v ∧ RAM w' ab mb wb hb v F T l ws) ∧
    Fr (fun k => getE F T l ws n W = none ∧ OwnR ab wb hb k) w w' ∧ (∀ k, v'.ownBlock = some k → v.ownBlock = some k ∨ w.heap.size ≤ k)
theorem rgot_err {w w' : World} {ab mb wb hb : Nat} {v f : Value} {F T : Int} {l : List Bk} {ws : List Nat} {n W : Int} {x : List (ByteArray × Int) × Int} (h : RAM w ab mb wb hb v F T l ws) (he : getE F T l ws n W = some x) (hx : TellsF w' f (some x)) (hn : New w w') : RGot w ab mb wb hb v F T l ws n W (.returned (.tuple #[.int .i64 0, f])) w' := by
  refine ⟨f, v, ?_, ?_, ?_, ?_, fun k hk => .inl hk⟩
  · rw [he, if_neg (by simp)]
  · rw [he]; exact hx
  · rw [he, if_neg (by simp)]; exact ⟨rfl, h.new hn⟩
  · exact hn.mono (fun _ _ h => h.elim)
theorem rgot_ok {w w' : World} {ab mb wb hb : Nat} {v v' : Value} {F T P : Int} {l : List Bk} {ws : List Nat} {n W : Int} (he : getE F T l ws n W = none) (hP : gotP F T l n = P) (h : RAM w' ab mb wb hb v' F T (gotL F T l n W) (fill ws P.toNat n.toNat W.toNat)) (hf : Fr (OwnR ab wb hb) w w') (ho : ∀ k, v'.ownBlock = some k → w.heap.size ≤ k) : RGot w ab mb wb hb v F T l ws n W (.returned (.tuple #[.int .i64 P, .pointer none])) w' := by
  subst hP
  refine ⟨.pointer none, v', ?_, ?_, ?_, ?_, fun k hk => .inr (ho k hk)⟩
  · rw [he, if_pos rfl]
  · rw [he]; rfl
  · rw [he, if_pos rfl]; exact h
  · rw [he]; exact hf.mono (fun _ _ h => ⟨rfl, h⟩)

set_option maxRecDepth 100000 in
set_option maxHeartbeats 8000000 in
theorem rget_good (ab mb wb hb : Nat) (v : Value) (F T : Int) (l : List Bk) (ws : List Nat) (n W : Int) (w : World) (h : RAM w ab mb wb hb v F T l ws) (hg : ¬ badArg n W) (hfw : l.length < 100000) :
    Calls Tryd.prog 31 #[.pointer (some ⟨ab, 0, none⟩), .int .i64 n, .int .i64 W] w fun e w' => RGot w ab mb wb hb v F T l ws n W e w' := by
  obtain ⟨g1, g2, g3⟩ := goodArg hg
  obtain ⟨s1, s2, s3, s4, s5, s6⟩ := stopI_le F T l n
  have hst := fun i => h.fit.start i
  have hen := fun i (hi : i ≤ l.length) => h.fit.end_ hi
  have hlo := h.fit.lo
  have hinn := h.fit.inn
  have hfi := h.fit.ins s1 g1 (W := W)
  obtain ⟨x, hx⟩ : ∃ x, (W != 64) = x := ⟨_, rfl⟩
  obtain ⟨y, hy⟩ : ∃ y, (W != 32) = y := ⟨_, rfl⟩
  have hxy : x = false ∨ (x = true ∧ y = false) := by
    rcases g3 with rfl | rfl
    · exact .inr ⟨by rw [← hx]; rfl, by rw [← hy]; rfl⟩
    · exact .inl (by rw [← hx]; rfl)
  obtain ⟨ao, cap, rfl, _⟩ := owned_form h.own
  have hcap := doc_cap h.own
  have la := lt_of_block h.hd
  obtain ⟨i0, hi, hz0, hz1, hz2⟩ := info_parts rblkInfo
  obtain ⟨cs, M, hm⟩ := h.m
  have hap := h.ap
  have hMAP := fun w' (f : New w w') => rmap_any mb wb hb cs ws M (endA F l (stopI F T l n)) n W w' (hm.keep f id id id) (by omega) (by have := hen _ s1; omega)
  obtain ⟨N, hN⟩ : ∃ N, l.length = N := ⟨_, rfl⟩
  have HAT := Lib.hid (fun (q : Nat) (y : Bk) (e : l[q]? = some y) => flat_at bC 3 bC_len h.own e (by omega))
  have HOWN := Lib.hid h.own
  rw [hN] at s1 s3 s4 s6 hfw hcap hap HOWN
  have HLT := Lib.hid (fun k (hk : k ≤ N) => show ((l.take k).flatMap bC).length = k * 3 by rw [len_flatMap bC 3 bC_len, List.length_take, hN, Nat.min_eq_left hk])
  have HLD := Lib.hid (fun k (hk : k ≤ N) => show ((l.drop k).flatMap bC).length = (N - k) * 3 by rw [len_flatMap bC 3 bC_len, List.length_drop, hN])
  have hhd := h.hd
  rw [hN] at hhd
  have H := Lib.hid h
  have HG := Lib.hid hg
  have HN := Lib.hid hN
  have HHD := Lib.hid hhd
  have HST := Lib.hid hst
  have HEN := Lib.hid hen
  have HINN := Lib.hid hinn
  have HMAP := Lib.hid hMAP
  have HFI := Lib.hid hfi
  have HAP := Lib.hid hap
  have HM := Lib.hid hm
  have S2 := Lib.hid s2
  have S3 := Lib.hid s3
  have S4 := Lib.hid s4
  have S5 := Lib.hid s5
  have S6 := Lib.hid s6
  generalize hi0 : stopI F T l n = i at S2 S3 S4 S5 S6 HMAP HFI s1
  clear h hg hst hen hinn hMAP hfi hap hm s2 s3 s4 s5 s6 hN hhd g3
  rcases hxy with rfl | ⟨rfl, rfl⟩
  all_goals
    go_enter Tryd.func31, Tryd.ntmps31
    have a1 : w.cell? ⟨ab, 1, none⟩ = some (.int .i64 F) := cell_of_block HHD.out 1
    go_upto_block 0 with fail
    clear a1
    go_cut [8, 9] (fun at_ k wx => at_ = .int .i64 (endA F l i) ∧ k = .int .i64 i ∧ New w wx)
    case first => as_aux_lemma =>
      go_wp2_with fail
      go_loopw [8, 9] (fun at_ j wr => ∃ k : Nat, k ≤ i ∧ j = .int .i64 k ∧ at_ = .int .i64 (endA F l k) ∧ New w wr) (fun _ j _ => N + 1 - (intOf j).toNat)
      case atStart => exact ⟨0, by omega, rfl, rfl, Fr.refl _ _⟩
      case round =>
        obtain ⟨k, hk, rfl, rfl, hn⟩ := hrel
        have c3 : wr.cell? ⟨ab, 3, none⟩ = some (.slice ao N cap) := (hn.cell la id 3).trans (cell_of_block HHD.out 3)
        have HNW := Lib.hid hn
        by_cases hlt : k < N
        · obtain ⟨b, hb⟩ : ∃ b, l[k]? = some b := ⟨l[k]'(by rw [HN.out]; omega), by simp⟩
          obtain ⟨g, rfl, hgl, hc⟩ := HAT.out k b hb
          have x0 : wr.cell? ⟨g, k * 3, none⟩ = some (.int .i64 b.pos) := (hn.cell hgl id _).trans (hc 0 _ rfl)
          have x1 : wr.cell? ⟨g, k * 3 + 1, none⟩ = some (.int .i64 b.num) := (hn.cell hgl id _).trans (hc 1 _ rfl)
          have hin := HINN.out b (List.mem_of_getElem? hb)
          have he := HEN.out k (by rw [HN.out]; omega)
          have hE := endA_succ (F := F) hb
          have hgp : gapA F T l k = b.pos - endA F l k := by unfold gapA startA; rw [hb]
          have hlt2 := S2.out k
          have hge := S3.out
          generalize hEk : endA F l k = E at he hgp ⊢
          generalize hP : b.pos = P at x0 hin hE hgp
          generalize hC : b.num = C at x1 hin hE
          have q1 : (0 : Int) ≤ (k : Int) := by omega
          have q2 : (k : Int) < (N : Int) := by omega
          have t0 : IntKind.i64.wrap (P - E) = P - E := IntWalk.i64_in _ (by omega)
          have t1 : IntKind.i64.wrap (P + C) = P + C := IntWalk.i64_in _ (by omega)
          by_cases hki : k < i
          · have t2 : P - E < n := by have := hlt2 hki; omega
            have HE := Lib.hid hE
            clear hb hc hn hin hE hgp hlt2 hge hEk hP hC
            go_wp2_with fail
            go_quiet (fail)
            go_wp2_with fail
            go_roundw
            case rel => exact ⟨k + 1, by omega, by go_num, by rw [HE.out], HNW.out.drewN _⟩
            case measure => simp [intOf]; omega
          · obtain rfl : i = k := by omega
            have t2 : ¬ P - E < n := by have := hge hlt; omega
            have HE := Lib.hid hEk
            clear hb hc hn hin hE hgp hlt2 hge hEk hP hC
            go_wp2_with fail
            go_meet
            exact ⟨by rw [HE.out], rfl, HNW.out⟩
        · obtain rfl : k = i := by omega
          clear hn
          generalize hEk : endA F l k = E
          have HE := Lib.hid hEk
          clear hEk
          go_wp2_with fail
          go_meet
          exact ⟨by rw [HE.out], rfl, HNW.out⟩
    case rest => as_aux_lemma =>
      obtain ⟨rfl, rfl, hn⟩ := hcut
      have HNW := Lib.hid hn
      have hE0 := HEN.out i (by rw [HN.out]; exact s1)
      have hgp : i = N → gapA F T l N = T - endA F l i := fun e => by
        unfold gapA startA
        rw [List.getElem?_eq_none (by rw [HN.out]; exact Nat.le_refl _), e]
      have hcond : (getI F T l n = none ∧ i = N ∧ T - endA F l i < n) ∨ (getI F T l n = some i ∧ (i ≠ N ∨ (i = N ∧ ¬ T - endA F l i < n))) := by
        by_cases e : getI F T l n = none
        · have e1 : i = N := by
            rcases Nat.lt_or_ge i N with h | h
            · exact absurd e (S6.out h)
            · omega
          exact .inl ⟨e, e1, by rw [← hgp e1]; exact (S4.out e1).2 e⟩
        · refine .inr ⟨S5.out e, ?_⟩
          by_cases e1 : i = N
          · exact .inr ⟨e1, fun hh => e ((S4.out e1).1 (by rw [hgp e1]; exact hh))⟩
          · exact .inl e1
      have HE1 := Lib.hid (fun h1 => getE_none (F := F) (T := T) (l := l) (ws := ws) (n := n) (W := W) HG.out h1)
      have HE2 := Lib.hid (fun h1 => getE_some (F := F) (T := T) (l := l) (ws := ws) (n := n) (W := W) (i := i) HG.out h1)
      have HGP := Lib.hid (show getI F T l n = some i → gotP F T l n = endA F l i from fun h1 => by unfold gotP; rw [h1])
      have HGL := Lib.hid (show getI F T l n = some i → gotL F T l n W = insA l i ⟨endA F l i, n, W⟩ from fun h1 => by unfold gotL; rw [h1])
      generalize endA F l i = P at hE0 hcond HMAP HFI HE2 HGP HGL ⊢
      generalize hoe : mapErr ws P n W = oe at HMAP HE2
      clear hn hgp hoe S2 S3 S4 S5 S6
      have c0 : wc.cell? ⟨ab, 0, none⟩ = some (.pointer (some ⟨mb, 0, none⟩)) := (HNW.out.cell la id 0).trans (cell_of_block HHD.out 0)
      have c2 : wc.cell? ⟨ab, 2, none⟩ = some (.int .i64 T) := (HNW.out.cell la id 2).trans (cell_of_block HHD.out 2)
      have c3 : wc.cell? ⟨ab, 3, none⟩ = some (.slice ao N cap) := (HNW.out.cell la id 3).trans (cell_of_block HHD.out 3)
      have q1 : (i : Int) ≤ (N : Int) := by omega
      have q2 : (N : Int) ≤ (cap : Int) := by omega
      have q3 : (i : Int) ≤ (cap : Int) := by omega
      rcases hcond with ⟨h1, h2, h3⟩ | ⟨h1, h2⟩
      · have HE := Lib.hid (HE1.out h1)
        subst h2
        go_wp2_with (go_at_call 16; refine (no_says _ _ _ _).mono ?_; rintro e w' ⟨v, rfl, he, hn⟩)
        go_ret2
        exact rgot_err H.out HE.out (failN_of he) (HNW.out.trans hn)
      · have HE := Lib.hid (HE2.out h1)
        have HGP1 := Lib.hid (HGP.out h1)
        have HGL1 := Lib.hid (HGL.out h1)
        have HFI1 := Lib.hid (HFI.out (getI_some h1).2.1)
        clear HE1 HE2 HGP HGL HFI h1
        go_upto_region 8 with fail
        go_cut [87] (fun b wx => b = .bool false ∧ wx = wc)
        case first => as_aux_lemma =>
          rcases h2 with h2 | ⟨h2, h3⟩
          · have t1 : ((i : Int) == (N : Int)) = false := by rw [beq_eq_false_iff_ne]; omega
            go_wp2_with fail
            go_meet
            exact ⟨rfl, rfl⟩
          · subst h2
            go_wp2_with fail
            go_meet
            exact ⟨rfl, rfl⟩
        case rest => as_aux_lemma =>
          obtain ⟨rfl, rfl⟩ := hcut
          go_wp2_with fail
          refine (HMAP.out _ HNW.out).mono ?_
          rintro e w1 ⟨f, rfl, hx, hr, hf⟩
          cases oe with
          | some pk =>
            obtain ⟨p, k⟩ := pk
            obtain ⟨eb, rfl⟩ := SaysF.at hx
            have HX := Lib.hid (failN_of hx)
            have HF := Lib.hid (HNW.out.trans (hf.mono (fun _ _ h => by cases h.1)))
            clear hx hr hf c0 c2 c3
            go_wp2_with (go_at_call 42; refine (in_any _ _ _ _ _ _ HX.out (by simp)).mono ?_; rintro e w' ⟨v, rfl, he, hn⟩)
            go_ret2
            exact rgot_err H.out HE.out he (HF.out.trans hn)
          | none =>
            obtain rfl : f = .pointer none := hx
            rw [if_pos rfl] at hr
            have f01 : Fr (fun k => k = wb ∨ k = hb) w w1 := (HNW.out.mono (fun _ _ h => h.elim)).trans (hf.mono (fun _ _ e => e.2))
            obtain ⟨p1, p2, p3, p4⟩ := HAP.out
            have hb1 : w1.heap[ab]? = some (.cells #[.pointer (some ⟨mb, 0, none⟩), .int .i64 F, .int .i64 T, .slice ao N cap] 97 (0, 0)) := (f01.block ab la (by omega)).trans HHD.out
            have hown1 := own_kept HOWN.out f01 (fun k hk e => by have := p4 k hk; omega)
            have l1 := lt_of_block hb1
            have hs1 : Src w1 ao i cap ((l.take i).flatMap bC) := by rw [← flat_take' bC 3 bC_len]; exact (Src.of_own hown1).take s1 _
            have hs2 := (Src.of_own hown1).drop (k := i) (size := 3) hown1.1 s1 hcap
            rw [flat_drop' bC 3 bC_len] at hs2
            have hos := own_some hown1 (k := i) s1
            have HAO := Lib.hid (show ∀ ad, ao = some ad → ad.block < w1.heap.size from fun ad e => by
              subst e
              exact (hown1.lt _ rfl).2)
            have c3 : w1.cell? ⟨ab, 3, none⟩ = some (.slice ao N cap) := cell_of_block hb1 3
            have HR := Lib.hid hr
            have F01 := Lib.hid f01
            have B1 := Lib.hid hb1
            have hlen := HLT.out i s1
            have hlen2 := HLD.out i s1
            have hown := World.ownsRow_nil w1 w1.heap.size 98 3
            have HINS := Lib.hid (show insA l i ⟨P, n, W⟩ = l.take i ++ [⟨P, n, W⟩] ++ l.drop i from by unfold insA; simp)
            have hr0 := HM.out.hd.lt
            have hr1 := HM.out.widths.lt
            have hr2 := HM.out.holds.lt
            have hsz := F01.out.size
            clear hx hr hf f01 hb1 hown1 c0 c2
            clear h2
            by_cases hc : cap = i
            · rw [if_pos hc] at hs2
              obtain rfl : N = i := by omega
              obtain rfl : N = cap := hc.symm
              clear hos
              have HS1 := Lib.hid hs1
              have HS2 := Lib.hid (show Src w1 ao 0 0 ((l.drop N).flatMap bC) from hs2.cast (by first | rfl | exact map_add _ _) (by omega) (by omega) rfl)
              have HLEN := Lib.hid hlen
              have HLEN2 := Lib.hid (show ((l.drop N).flatMap bC).length = 0 * 3 from by omega)
              clear hs1 hs2 hlen hlen2
              go_wp2_with (first
                | (at_builtin; refine wpList_append_src rfl (.tmp 102) (.tmp 108) 95 rfl w1.heap.size 98 i0 _ 3 24 Tryd.underlying95 hi hz0 hz1 hz2 rfl (by decide) _ _ _ rfl hown ao N N ((l.take N).flatMap bC) rfl HLEN.out HS1.out (bC_one _) (by unfold maxLen; omega) (by omega) (Nat.le_refl _) ?_; intro v1 w2 hown2 hgrow2; rw [List.nil_append, Nat.zero_add] at hown2; have f2 : Fr (fun k => w1.heap.size ≤ k) w1 w2 := (Fr.refl _ w1).grown hgrow2 (fun k hk _ => by cases hk); have b2 := (f2.block ab l1 (by omega)).trans B1.out; have l2 := lt_of_block b2; have d3 : w2.cell? ⟨ab, 3, none⟩ = some (.slice ao N N) := cell_of_block b2 3; obtain ⟨ao1, cap1, rfl, _⟩ := owned_form hown2; have HO2 := Lib.hid hown2; have F2 := Lib.hid f2; have B2 := Lib.hid b2; clear hgrow2 hown2 f2 b2 hown)
                | (at_builtin; refine wpList_append_src rfl (.tmp 110) (.tmp 115) 95 rfl w1.heap.size 98 i0 _ 3 24 Tryd.underlying95 hi hz0 hz1 hz2 rfl (by decide) _ _ _ rfl (HO2.out.alloc _) (some ⟨w2.heap.size, 0, none⟩) 1 1 (bC ⟨P, n, W⟩) rfl rfl (.inr ⟨_, rfl, by simp, Arr.add (Arr.new _ _ _)⟩) (by simp [bC, Value.oneCell']) (by unfold maxLen; omega) (by omega) (by have := F2.out.size; simp; omega) ?_; intro v2 w3 hown3 hgrow3; have f3 : Fr (fun k => w1.heap.size ≤ k) w2 w3 := ((Fr.refl _ w2).alloc _).grown hgrow3 (fun k hk _ => (HO2.out.lt k hk).1); have b3 := (f3.block ab l2 (by omega)).trans B2.out; have l3 := lt_of_block b3; have e3 : w3.cell? ⟨ab, 3, none⟩ = some (.slice ao N N) := cell_of_block b3 3; obtain ⟨ao2, cap2, rfl, _⟩ := owned_form hown3; have HO3 := Lib.hid hown3; have F3 := Lib.hid f3; have B3 := Lib.hid b3; clear hgrow3 hown3 f3 b3 d3 l2)
                | (at_builtin; refine wpList_append_src rfl (.tmp 118) (.tmp 124) 95 rfl w1.heap.size 98 i0 _ 3 24 Tryd.underlying95 hi hz0 hz1 hz2 rfl (by decide) _ _ _ rfl HO3.out ao 0 0 ((l.drop N).flatMap bC) rfl HLEN2.out (HS2.out.keep (F2.out.trans F3.out) (fun ad e hk => by first | (cases e; exact absurd hk (by show ¬ w1.heap.size ≤ g; omega)) | (have := HAO.out ad e; omega))) (bC_one _) (by unfold maxLen; omega) (by omega) (by have := F2.out.size; have := F3.out.size; omega) ?_; intro v3 w4 hown4 hgrow4; have f4 : Fr (fun k => w1.heap.size ≤ k) w3 w4 := (Fr.refl _ w3).grown hgrow4 (fun k hk _ => (HO3.out.lt k hk).1); have b4 := (f4.block ab l3 (by omega)).trans B3.out; have l4 := lt_of_block b4; have y4 := free_of_block b4 3; have x4 : w4.cell? ⟨ab, 3, none⟩ = some _ := cell_of_block b4 3; obtain ⟨ao3, cap3, rfl, _⟩ := owned_form hown4; have HO4 := Lib.hid hown4; have F4 := Lib.hid f4; have B4 := Lib.hid b4; clear hgrow4 hown4 f4 b4 e3 l3))
              go_ret2
              have hcs : (l.take N).flatMap bC ++ bC ⟨P, n, W⟩ ++ (l.drop N).flatMap bC = (insA l N ⟨P, n, W⟩).flatMap bC := by rw [HINS.out, List.flatMap_append, List.flatMap_append]; simp
              have ho := HO4.out
              rw [hcs] at ho
              have f14 : Fr (fun k => w1.heap.size ≤ k) w1 w4 := (F2.out.trans F3.out).trans F4.out
              have hend := ram_end H.out ((F01.out.mono (fun _ _ e => .inr e)).then f14 (fun k hk e => absurd e (by omega))) B4.out (ho.mono hsz) (by rw [insA_len, HN.out]; try omega) (by omega) HFI1.out (HR.out.keep f14 (by omega) (by omega) (by omega))
              refine rgot_ok HE.out HGP1.out ?_ hend.2.1 hend.2.2
              rw [HGL1.out]
              exact hend.1
            · rw [if_neg hc] at hs2
              obtain ⟨g, rfl, hg⟩ := hos hc
              have q5 : ¬ ((cap : Int) = (i : Int)) := by omega
              clear hos
              have HS1 := Lib.hid hs1
              have HS2 := Lib.hid (show Src w1 (some ⟨g, i * 3, none⟩) (N - i) (cap - i) ((l.drop i).flatMap bC) from hs2.cast (by first | rfl | exact map_add _ _) (by omega) (by omega) rfl)
              have HLEN := Lib.hid hlen
              have HLEN2 := Lib.hid (show ((l.drop i).flatMap bC).length = (N - i) * 3 from by omega)
              clear hs1 hs2 hlen hlen2
              go_wp2_with (first
                | (at_builtin; refine wpList_append_src rfl (.tmp 102) (.tmp 108) 95 rfl w1.heap.size 98 i0 _ 3 24 Tryd.underlying95 hi hz0 hz1 hz2 rfl (by decide) _ _ _ rfl hown (some ⟨g, 0, none⟩) i cap ((l.take i).flatMap bC) rfl HLEN.out HS1.out (bC_one _) (by unfold maxLen; omega) (by omega) (Nat.le_refl _) ?_; intro v1 w2 hown2 hgrow2; rw [List.nil_append, Nat.zero_add] at hown2; have f2 : Fr (fun k => w1.heap.size ≤ k) w1 w2 := (Fr.refl _ w1).grown hgrow2 (fun k hk _ => by cases hk); have b2 := (f2.block ab l1 (by omega)).trans B1.out; have l2 := lt_of_block b2; have d3 : w2.cell? ⟨ab, 3, none⟩ = some (.slice (some ⟨g, 0, none⟩) N cap) := cell_of_block b2 3; obtain ⟨ao1, cap1, rfl, _⟩ := owned_form hown2; have HO2 := Lib.hid hown2; have F2 := Lib.hid f2; have B2 := Lib.hid b2; clear hgrow2 hown2 f2 b2 hown)
                | (at_builtin; refine wpList_append_src rfl (.tmp 110) (.tmp 115) 95 rfl w1.heap.size 98 i0 _ 3 24 Tryd.underlying95 hi hz0 hz1 hz2 rfl (by decide) _ _ _ rfl (HO2.out.alloc _) (some ⟨w2.heap.size, 0, none⟩) 1 1 (bC ⟨P, n, W⟩) rfl rfl (.inr ⟨_, rfl, by simp, Arr.add (Arr.new _ _ _)⟩) (by simp [bC, Value.oneCell']) (by unfold maxLen; omega) (by omega) (by have := F2.out.size; simp; omega) ?_; intro v2 w3 hown3 hgrow3; have f3 : Fr (fun k => w1.heap.size ≤ k) w2 w3 := ((Fr.refl _ w2).alloc _).grown hgrow3 (fun k hk _ => (HO2.out.lt k hk).1); have b3 := (f3.block ab l2 (by omega)).trans B2.out; have l3 := lt_of_block b3; have e3 : w3.cell? ⟨ab, 3, none⟩ = some (.slice (some ⟨g, 0, none⟩) N cap) := cell_of_block b3 3; obtain ⟨ao2, cap2, rfl, _⟩ := owned_form hown3; have HO3 := Lib.hid hown3; have F3 := Lib.hid f3; have B3 := Lib.hid b3; clear hgrow3 hown3 f3 b3 d3 l2)
                | (at_builtin; refine wpList_append_src rfl (.tmp 118) (.tmp 124) 95 rfl w1.heap.size 98 i0 _ 3 24 Tryd.underlying95 hi hz0 hz1 hz2 rfl (by decide) _ _ _ rfl HO3.out (some ⟨g, i * 3, none⟩) (N - i) (cap - i) ((l.drop i).flatMap bC) rfl HLEN2.out (HS2.out.keep (F2.out.trans F3.out) (fun ad e hk => by first | (cases e; exact absurd hk (by show ¬ w1.heap.size ≤ g; omega)) | (have := HAO.out ad e; omega))) (bC_one _) (by unfold maxLen; omega) (by omega) (by have := F2.out.size; have := F3.out.size; omega) ?_; intro v3 w4 hown4 hgrow4; have f4 : Fr (fun k => w1.heap.size ≤ k) w3 w4 := (Fr.refl _ w3).grown hgrow4 (fun k hk _ => (HO3.out.lt k hk).1); have b4 := (f4.block ab l3 (by omega)).trans B3.out; have l4 := lt_of_block b4; have y4 := free_of_block b4 3; have x4 : w4.cell? ⟨ab, 3, none⟩ = some _ := cell_of_block b4 3; obtain ⟨ao3, cap3, rfl, _⟩ := owned_form hown4; have HO4 := Lib.hid hown4; have F4 := Lib.hid f4; have B4 := Lib.hid b4; clear hgrow4 hown4 f4 b4 e3 l3))
              go_ret2
              have hcs : (l.take i).flatMap bC ++ bC ⟨P, n, W⟩ ++ (l.drop i).flatMap bC = (insA l i ⟨P, n, W⟩).flatMap bC := by rw [HINS.out, List.flatMap_append, List.flatMap_append]; simp
              have ho := HO4.out
              rw [hcs] at ho
              have f14 : Fr (fun k => w1.heap.size ≤ k) w1 w4 := (F2.out.trans F3.out).trans F4.out
              have hend := ram_end H.out ((F01.out.mono (fun _ _ e => .inr e)).then f14 (fun k hk e => absurd e (by omega))) B4.out (ho.mono hsz) (by rw [insA_len, HN.out]; try omega) (by omega) HFI1.out (HR.out.keep f14 (by omega) (by omega) (by omega))
              refine rgot_ok HE.out HGP1.out ?_ hend.2.1 hend.2.2
              rw [HGL1.out]
              exact hend.1

end Go.Proofs.YtlmjogfjhngcoaaDoor
