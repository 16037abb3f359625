/- A block is taken. -/
import Derived.Test.YtlmjogfjhngcoaaDoorAllocA
import Derived.Deep.AppendLies
namespace Go.Proofs.YtlmjogfjhngcoaaDoor
open Go.RowKit

/-- The blocks and the memory they lie in. -/
structure AM (w : World) (ab mb cb wb : Nat) (v : Value) (F T : Int) (l : List Bk) (ws : List Nat) : Prop where
  a : AllocRep w ab mb v F T l
  m : ∃ cs, MemRep w mb cb wb cs ws (cnt ws) 0
  ap : ab ≠ mb ∧ ab ≠ cb ∧ ab ≠ wb ∧ ∀ k, v.ownBlock = some k → k ≠ mb ∧ k ≠ cb ∧ k ≠ wb
/-- The blocks that a call may turn. -/
def OwnA (ab mb cb wb : Nat) (v : Value) (k : Nat) : Prop := k = ab ∨ k = mb ∨ k = cb ∨ k = wb ∨ v.ownBlock = some k
theorem AM.keep {w w' : World} {ab mb cb wb : Nat} {v : Value} {F T : Int} {l : List Bk} {ws : List Nat} {S : Nat → Prop} (h : AM w ab mb cb wb v F T l ws) (f : Fr S w w') (hs : ∀ k, OwnA ab mb cb wb v k → ¬ S k) : AM w' ab mb cb wb v F T l ws := by
  obtain ⟨cs, hm⟩ := h.m
  exact ⟨h.a.keep f (hs _ (.inl rfl)) (fun k hk => hs k (.inr (.inr (.inr (.inr hk))))), ⟨cs, hm.keep f (hs _ (.inr (.inl rfl))) (hs _ (.inr (.inr (.inl rfl)))) (hs _ (.inr (.inr (.inr (.inl rfl)))))⟩, h.ap⟩
theorem AM.new {w w' : World} {ab mb cb wb : Nat} {v : Value} {F T : Int} {l : List Bk} {ws : List Nat} (h : AM w ab mb cb wb v F T l ws) (f : New w w') : AM w' ab mb cb wb v F T l ws := h.keep f (fun _ _ => id)
theorem cnt_small {w : World} {mb cb wb : Nat} {cs ws : List Nat} (h : MemRep w mb cb wb cs ws (cnt ws) 0) : ws.length ≤ 10000000 := by have := h.len; omega

/-- What Get answers and leaves. -/
def badArg (n W : Int) : Prop := n < 1 ∨ 4096 < n ∨ (W ≠ 32 ∧ W ≠ 64)
noncomputable def getE (F T : Int) (l : List Bk) (ws : List Nat) (n W : Int) : ErrL := by
  classical exact if badArg n W then some ([(alL, 0)], 1) else match getI F T l n with
  | none => some ([(alL, 0)], 3)
  | some i => inL alL (endA F l i) memL (mapErr ws (endA F l i) n W)
theorem getE_bad {F T : Int} {l : List Bk} {ws : List Nat} {n W : Int} (h : badArg n W) : getE F T l ws n W = some ([(alL, 0)], 1) := by unfold getE; rw [if_pos h]
theorem getE_none {F T : Int} {l : List Bk} {ws : List Nat} {n W : Int} (h : ¬ badArg n W) (hi : getI F T l n = none) : getE F T l ws n W = some ([(alL, 0)], 3) := by unfold getE; rw [if_neg h, hi]
theorem getE_some {F T : Int} {l : List Bk} {ws : List Nat} {n W : Int} {i : Nat} (h : ¬ badArg n W) (hi : getI F T l n = some i) : getE F T l ws n W = inL alL (endA F l i) memL (mapErr ws (endA F l i) n W) := by unfold getE; rw [if_neg h, hi]
def gotP (F T : Int) (l : List Bk) (n : Int) : Int := match getI F T l n with | some i => endA F l i | none => 0
def gotL (F T : Int) (l : List Bk) (n W : Int) : List Bk := match getI F T l n with | some i => insA l i ⟨endA F l i, n, W⟩ | none => l
theorem goodArg {n W : Int} (h : ¬ badArg n W) : 1 ≤ n ∧ n ≤ 4096 ∧ (W = 32 ∨ W = 64) := by unfold badArg at h; omega

set_option maxRecDepth 100000 in
set_option maxHeartbeats 1000000 in
theorem get_bad (ab : Nat) (n W : Int) (w : World) (h : badArg n W) :
    Calls Tryd.prog 11 #[.pointer (some ⟨ab, 0, none⟩), .int .i64 n, .int .i64 W] w fun e w' => ∃ v, e = .returned (.tuple #[.int .i64 0, v]) ∧ Tells w' v (some ([(alL, 0)], 1)) ∧ New w w' := by
  unfold badArg at h
  have hc : n < 1 ∨ (1 ≤ n ∧ 4096 < n) ∨ (1 ≤ n ∧ n ≤ 4096 ∧ W ≠ 32 ∧ W ≠ 64) := by omega
  clear h
  rcases hc with h1 | ⟨h1, h2⟩ | ⟨h1, h2, h3, h4⟩
  · go_enter Tryd.func11, Tryd.ntmps11
    go_wp2_with (go_at_call 34; refine (afail_any _ _ _ (by omega) (by omega)).mono ?_; rintro e w' ⟨v, rfl, he, hn⟩)
    go_ret2
    exact ⟨_, rfl, he, hn⟩
  · go_enter Tryd.func11, Tryd.ntmps11
    go_wp2_with (go_at_call 34; refine (afail_any _ _ _ (by omega) (by omega)).mono ?_; rintro e w' ⟨v, rfl, he, hn⟩)
    go_ret2
    exact ⟨_, rfl, he, hn⟩
  · have t1 : (W != 32) = true := by rw [bne_iff_ne]; exact h3
    have t2 : (W != 64) = true := by rw [bne_iff_ne]; exact h4
    go_enter Tryd.func11, Tryd.ntmps11
    go_wp2_with (go_at_call 34; refine (afail_any _ _ _ (by omega) (by omega)).mono ?_; rintro e w' ⟨v, rfl, he, hn⟩)
    go_ret2
    exact ⟨_, rfl, he, hn⟩

set_option maxRecDepth 100000 in
set_option maxHeartbeats 2000000 in
theorem get_none (ab mb : Nat) (v : Value) (F T : Int) (l : List Bk) (n W : Int) (w : World) (h : AllocRep w ab mb v F T l) (hg : ¬ badArg n W) (hi : getI F T l n = none) :
    Calls Tryd.prog 11 #[.pointer (some ⟨ab, 0, none⟩), .int .i64 n, .int .i64 W] w fun e w' => ∃ x, e = .returned (.tuple #[.int .i64 0, x]) ∧ Tells w' x (some ([(alL, 0)], 3)) ∧ New w w' := by
  obtain ⟨g1, g2, g3⟩ := goodArg hg
  have hlt := getI_none hi
  have hst := fun i => h.fit.start i
  have hen := fun i (hi : i ≤ l.length) => h.fit.end_ hi
  have hlo := h.fit.lo
  have hfew := h.few
  obtain ⟨x, hx⟩ : ∃ x, (W != 32) = x := ⟨_, rfl⟩
  obtain ⟨y, hy⟩ : ∃ y, (W != 64) = y := ⟨_, rfl⟩
  have hxy : x = false ∨ (x = true ∧ y = false) := by
    rcases g3 with rfl | rfl
    · exact .inl (by rw [← hx]; rfl)
    · exact .inr ⟨by rw [← hx]; rfl, by rw [← hy]; rfl⟩
  obtain ⟨ao, ca, rfl, _⟩ := owned_form h.own
  obtain ⟨N, hN⟩ : ∃ N, l.length = N := ⟨_, rfl⟩
  have H := Lib.hid h
  have HN := Lib.hid hN
  have HLT := Lib.hid hlt
  have HST := Lib.hid hst
  have HEN := Lib.hid hen
  rw [hN] at hfew
  clear h hg hi hlt hst hen hN g3
  rcases hxy with rfl | ⟨rfl, rfl⟩
  all_goals
    go_enter Tryd.func11, Tryd.ntmps11
    go_wp2_with fail
    go_loopw [8] (fun i wr => ∃ k : Nat, k ≤ N + 1 ∧ i = .int .i64 k ∧ New w wr) (fun i _ => N + 1 - (intOf i).toNat)
    case atStart => exact ⟨0, by omega, rfl, Fr.refl _ _⟩
    case round =>
      obtain ⟨k, hk, rfl, hn⟩ := hrel
      have HR := Lib.hid (H.out.new hn)
      have c3 : wr.cell? ⟨ab, 3, none⟩ = some (.slice ao N ca) := by have := cell_of_block HR.out.hd 3; rw [HN.out] at this; exact this
      have HNW := Lib.hid hn
      clear hn
      by_cases hlt : k ≤ N
      · have hE := aend_any ab mb _ F T l k wr HR.out (by rw [HN.out]; exact hlt)
        have hS := fun w' (f : New wr w') => astart_any ab mb _ F T l k w' (HR.out.new f) (by rw [HN.out]; exact hlt)
        have hg := HLT.out k (by rw [HN.out]; exact hlt)
        have hs := HST.out k
        have he := HEN.out k (by rw [HN.out]; exact hlt)
        unfold gapA at hg
        generalize endA F l k = E at hE hg he
        generalize startA T l k = S at hS hg hs
        have HE := Lib.hid hE
        have HS := Lib.hid hS
        clear hE hS
        go_wp2_with fail
        refine HE.out.mono ?_
        rintro e w1 ⟨rfl, hn1⟩
        have HN1 := Lib.hid hn1
        clear hn1
        go_wp2_with fail
        refine (HS.out w1 HN1.out).mono ?_
        rintro e w2 ⟨rfl, hn2⟩
        have HN2 := Lib.hid (HNW.out.trans (HN1.out.trans hn2))
        clear hn2
        go_wp2
        go_roundw
        case rel => exact ⟨k + 1, by omega, by go_num, HN2.out⟩
        case measure => simp [intOf]; omega
      · go_wp2_with (go_at_call 34; refine (afail_any _ _ _ (by omega) (by omega)).mono ?_; rintro e w' ⟨v, rfl, he, hn⟩)
        go_ret2
        exact ⟨_, rfl, he, HNW.out.trans hn⟩

end Go.Proofs.YtlmjogfjhngcoaaDoor
