/- Who is moved keeps its mask and comes behind those that are there: the statement's walk. -/
import Derived.Test.YteeckkkbmlkkiaaWaitM
namespace Go.Proofs.Yteeckkkbmlkkiaa
open Go.RowKit Go.Maps

theorem u64Info : (Try.prog.info? 23).map (fun i => (i.zero, i.size, i.bytes)) = some (some (.int .u64 0), 1, 8) := by kernel_rfl
def u64c (l : List Nat) : List Value := l.map fun (x : Nat) => Value.int .u64 (x : Int)
theorem u64c_snoc (l : List Nat) (x : Nat) : u64c l ++ [.int .u64 x] = u64c (l ++ [x]) := by simp [u64c]
theorem u64c_get {l : List Nat} {j x : Nat} (h : l[j]? = some x) : (u64c l)[j]? = some (.int .u64 x) := by simp [u64c, h]
/-- The queues' blocks lie between. -/
def Betw (m B qb lb mb : Nat) (L : List Sl) : Prop := ∀ k, qOwn qb lb mb L k → m ≤ k ∧ k < B
theorem betw_without {m B qb lb mb : Nat} {L : List Sl} (h : Betw m B qb lb mb L) (x : Nat) : Betw m B qb lb mb (without L x) := by
  rintro k (hk | hk | hk | ⟨y, hy, hk⟩)
  · exact h k (.inl hk)
  · exact h k (.inr (.inl hk))
  · exact h k (.inr (.inr (.inl hk)))
  · exact h k (.inr (.inr (.inr ⟨y, (List.mem_filter.1 hy).1, hk⟩)))
theorem betw_move {m B qb lb mb : Nat} {L : List Sl} (h : Betw m B qb lb mb L) {s : Sl} (hs : s ∈ L) (t : Nat) : Betw m B qb lb mb (without L s.id ++ [{ s with addr := t }]) := by
  rintro k (hk | hk | hk | ⟨y, hy, hk⟩)
  · exact h k (.inl hk)
  · exact h k (.inr (.inl hk))
  · exact h k (.inr (.inr (.inl hk)))
  · rcases List.mem_append.1 hy with hy | hy
    · exact h k (.inr (.inr (.inr ⟨y, (List.mem_filter.1 hy).1, hk⟩)))
    · rw [List.mem_singleton.1 hy] at hk
      exact h k (.inr (.inr (.inr ⟨s, hs, hk⟩)))
/-- What the law keeps of its memory: the queues, all else as it was, but for them and what is newer. -/
structure Keep (m B qb lb mb : Nat) (L : List Sl) (w wr : World) : Prop where
  rep : QRep wr qb lb mb 4 L
  betw : Betw m B qb lb mb L
  fr : Fr (fun k => m ≤ k ∧ k < B) w wr
theorem Keep.new {m B qb lb mb : Nat} {L : List Sl} {w w1 w2 : World} (h : Keep m B qb lb mb L w w1) (f : New w1 w2) : Keep m B qb lb mb L w w2 :=
  ⟨h.rep.new f, h.betw, h.fr.trans (f.mono (fun _ _ h => h.elim))⟩
theorem Keep.turn {m B qb lb mb : Nat} {L L' : List Sl} {w w1 w2 : World} (h : Keep m B qb lb mb L w w1) (hr : QRep w2 qb lb mb 4 L') (f : Fr (qOwn qb lb mb L) w1 w2) (hb : Betw m B qb lb mb L') : Keep m B qb lb mb L' w w2 :=
  ⟨hr, hb, h.fr.trans (f.mono (fun k _ hk => h.betw k hk))⟩

/-- A slice's numbers, in a block that is not older than B. -/
def NatsB (B : Nat) (w : World) (ao : Option Addr) (W : List Nat) : Prop := ∀ j x : Nat, W[j]? = some x → ∃ g, ao = some ⟨g, 0, none⟩ ∧ B ≤ g ∧ g < w.heap.size ∧ w.cell? ⟨g, j, none⟩ = some (.int .u64 x)
theorem NatsB.keep {B : Nat} {w w' : World} {ao : Option Addr} {W : List Nat} {S : Nat → Prop} (h : NatsB B w ao W) (f : Fr S w w') (hs : ∀ k, S k → k < B) : NatsB B w' ao W := fun j x hj => by
  obtain ⟨g, h1, h2, h3, h4⟩ := h j x hj
  exact ⟨g, h1, h2, Nat.lt_of_lt_of_le h3 f.size, (f.cell h3 (fun e => by have := hs g e; omega) _).trans h4⟩
theorem natsB_own {w : World} {base n : Nat} {v : Value} {W : List Nat} (h : w.ownsRow base 23 1 v n (u64c W)) : ∃ ao cap, v = .slice ao W.length cap ∧ NatsB base w ao W := by
  obtain ⟨ao, cap, rfl, hc⟩ := owned_form h
  have hn := h.1
  unfold u64c at hn
  rw [List.length_map] at hn
  refine ⟨ao, cap, by rw [show W.length = n by omega], fun j x hj => ?_⟩
  exact hc j _ (u64c_get hj)
theorem wantN_len (xs : List Nat) (a : Nat) : ∀ k, (wantN xs a k).length ≤ k := fun k => by
  unfold wantN
  rw [List.length_map]
  have := List.length_filter_le (fun i => xs.getD i 0 % 5 == a) (List.range k)
  simpa using this

set_option maxRecDepth 100000 in
set_option maxHeartbeats 8000000 in
theorem moves_walk (xs : List Nat) (ao : Option Addr) (ca f0 t0 : Nat) (w : World) (hx : Nats w ao xs) (hm : xs.length ≤ 9223372036854775807) (hxf : ∀ x ∈ xs, x < 18446744073709551616) (hf : f0 < 18446744073709551616) (ht : t0 < 18446744073709551616) :
    Calls Try.prog 5 #[.slice ao xs.length ca, .int .u64 f0, .int .u64 t0] w fun e w' => e = .returned (.bool true) ∧ New w w' := by
  obtain ⟨X, hX⟩ : ∃ X, xs.length = X := ⟨_, rfl⟩
  rw [hX] at hm ⊢
  have HX := Lib.hid hx
  have HXL := Lib.hid hX
  have HXF := Lib.hid hxf
  clear hx hX hxf
  by_cases hbig : 40 < X
  · go_enter Try.func5, Try.ntmps5
    go_wp2_with fail
    refine (awake_any _).mono ?_
    rintro e w1 ⟨rfl, hn1⟩
    have HN := Lib.hid hn1
    clear hn1
    go_wp2
    go_ret
    exact ⟨rfl, HN.out⟩
  have hl : X ≤ 40 := by omega
  obtain ⟨f, hff⟩ : ∃ f, f0 % 5 = f := ⟨_, rfl⟩
  obtain ⟨t, htt⟩ : ∃ t, t0 % 5 = t := ⟨_, rfl⟩
  have hf5 : f < 5 := by omega
  have ht5 : t < 5 := by omega
  have HFD := fun w' (h : New w w') => filled_any xs [] ao none ca 0 w' (HX.out.keep h) (fun j x h => by simp at h) (by rw [HXL.out]; omega) (by simp) HXF.out (fun x h => by simp at h)
  rw [HXL.out] at HFD
  have HFD := Lib.hid HFD
  obtain ⟨i0, hi, hz0, hz1, hz2⟩ := info_parts u64Info
  by_cases hft : f = t
  · go_enter Try.func5, Try.ntmps5
    go_wp2_with fail
    refine (HFD.out _ ?_).mono ?_
    · exact Fr.refl _ _
    rintro e w1 ⟨qb, lb, mb, L, rfl, hr, hfil, hfr, hn1⟩
    rw [show (f0 : Int) % 5 = (f : Int) by omega, show (t0 : Int) % 5 = (t : Int) by omega]
    have HN := Lib.hid hn1
    clear hr hfil hfr hn1 HFD hff htt
    subst hft
    go_wp2_with fail
    refine (awake_any _).mono ?_
    rintro e w2 ⟨rfl, hn2⟩
    have HN2 := Lib.hid (HN.out.trans hn2)
    clear hn2
    go_wp2
    go_ret
    exact ⟨rfl, HN2.out⟩
  go_enter Try.func5, Try.ntmps5
  go_wp2_with fail
  refine (HFD.out _ ?_).mono ?_
  · exact Fr.refl _ _
  rintro e w1 ⟨qb, lb, mb, L, rfl, hr, hfil, hfr, hn1⟩
  have HR := Lib.hid hr
  have HN := Lib.hid hn1
  have HFI := Lib.hid hfil
  have HFR := Lib.hid hfr
  rw [show (f0 : Int) % 5 = (f : Int) by omega, show (t0 : Int) % 5 = (t : Int) by omega]
  have hne1 : ((f : Int) == (t : Int)) = false := by rw [beq_eq_false_iff_ne]; omega
  clear hr hn1 hfil hfr HFD hff htt
  go_wp2_with fail
  have hB : ∀ k, qOwn qb lb mb L k → w.heap.size ≤ k ∧ k < w1.heap.size := fun k hk => ⟨HFR.out k hk, HR.out.lt hk⟩
  have HB := Lib.hid (show Betw w.heap.size w1.heap.size qb lb mb L from hB)
  have HW := Lib.hid (show wantOf L f t = wantN xs t X ++ wantN xs f X by unfold wantOf; rw [HFI.out.want, HFI.out.want])
  have HMK := Lib.hid (show ∀ s ∈ L, s.mask = 1 from fun s hs => by
    obtain ⟨i, hi, _⟩ := HFI.out.mem hs
    exact (HFI.out.at' i s hi).2.2)
  clear hB
  obtain ⟨B, hBB⟩ : ∃ B, w1.heap.size = B := ⟨_, rfl⟩
  have HBB := Lib.hid hBB
  rw [hBB] at HB
  clear hBB HFR
  go_loopw [8, 9] (fun v q wr => ∃ (k : Nat), k ≤ 2 ∧ q = .int .i64 k ∧ wr.ownsRow B 23 1 v ((if k = 0 then [] else wantN xs t X) ++ (if k = 2 then wantN xs f X else [])).length (u64c ((if k = 0 then [] else wantN xs t X) ++ (if k = 2 then wantN xs f X else []))) ∧ New w1 wr) (fun _ q _ => 2 - (intOf q).toNat)
  case atStart => exact ⟨0, by omega, rfl, World.ownsRow_nil _ _ _ _, Fr.refl _ _⟩
  case round =>
    obtain ⟨q, hq, rfl, hown, hnr⟩ := hrel
    have HNR := Lib.hid hnr
    clear hnr
    have hcase : q = 0 ∨ q = 1 ∨ q = 2 := by omega
    rcases hcase with rfl | rfl | rfl
    · have hown0 : wr.ownsRow B 23 1 u8 (([] : List Nat) ++ wantN xs t 0).length (u64c (([] : List Nat) ++ wantN xs t 0)) := by simpa [wantN] using hown
      have HO := Lib.hid hown0
      clear hown hown0 HFD
      have hpl : (([] : List Nat)).length ≤ 40 := by first | (simp; done) | (have := wantN_len xs t X; omega)
      rw [show ((0 : Nat) : Int) = 0 from rfl]
      go_wp2_with fail
      go_loopw [8, 10] (fun v i wr => ∃ (k : Nat), k ≤ X ∧ i = .int .i64 k ∧ wr.ownsRow B 23 1 v (([] : List Nat) ++ wantN xs t k).length (u64c (([] : List Nat) ++ wantN xs t k)) ∧ New w1 wr) (fun _ i _ => X - (intOf i).toNat)
      case atStart => exact ⟨0, by omega, rfl, HO.out, HNR.out⟩
      case round =>
        clear HO HNR
        obtain ⟨k, hk, rfl, hown, hnq⟩ := hrel
        have hBq : B ≤ wr.heap.size := by rw [← HBB.out]; exact hnq.size
        by_cases hlt : k < X
        · obtain ⟨x, hxk⟩ : ∃ x, xs[k]? = some x := by
            have : k < xs.length := by rw [HXL.out]; exact hlt
            exact ⟨_, List.getElem?_eq_getElem this⟩
          obtain ⟨g, off, rfl, hg1, hc1⟩ := HX.out.keep (HN.out.trans hnq) k _ hxk
          have hs := wantN_succ xs t k
          rw [List.getD_eq_getElem?_getD, hxk, Option.getD_some] at hs
          have hxb := HXF.out x (List.mem_of_getElem? hxk)
          have hwl := wantN_len xs t k
          have hll : (([] : List Nat) ++ wantN xs t k).length ≤ 80 := by rw [List.length_append]; omega
          by_cases hax : x % 5 = t
          · rw [if_pos hax] at hs
            have HS := Lib.hid hs
            have HNQ := Lib.hid hnq
            have d1 : ((x : Int) % 5 == (t : Int)) = true := by simp; omega
            clear hs hxk hnq hax hwl hpl
            generalize hl0 : ([] : List Nat) ++ wantN xs t k = l at *
            have HL0 := Lib.hid hl0
            have HOWN := Lib.hid hown
            clear hl0 hown
            go_wp2_with (at_builtin; go_loud (refine wpList_append_own _ rfl (.tmp 77) (.tmp 81) 22 rfl B 23 i0 _ 1 8 Try.underlying22 hi hz0 hz1 hz2 rfl (by decide) _ _ _ rfl (HOWN.out.alloc _) ⟨wr.heap.size, 0, none⟩ 1 1 [.int .u64 ((k + 1 : Nat) : Int)] rfl rfl (Arr.add (Arr.new _ _ _)) (by simp [Value.oneCell']) (by unfold maxLen; omega) (by omega) (by simp; omega) ?_; intro v' w3 hown3 hgrow hnil; clear hnil))
            have hn3 : New w1 w3 := HNQ.out.then (((Fr.refl (fun k => B ≤ k) wr).alloc _).grown hgrow (fun k hk _ => (HOWN.out.lt k hk).1)) (fun i hi e => by have := HBB.out; omega)
            have HN3 := Lib.hid hn3
            have HO3 := Lib.hid hown3
            clear hn3 hown3 hgrow
            go_roundw
            case rel => exact ⟨k + 1, by omega, by go_num, by rw [HS.out, ← List.append_assoc, HL0.out, ← u64c_snoc, List.length_append]; exact HO3.out, HN3.out⟩
            case measure => simp [intOf]; omega
          · rw [if_neg hax] at hs
            have HS := Lib.hid hs
            have HNQ := Lib.hid hnq
            have HOWN := Lib.hid hown
            have d1 : ((x : Int) % 5 == (t : Int)) = false := by rw [beq_eq_false_iff_ne]; omega
            clear hs hxk hnq hax hwl hpl hll hown
            go_wp2_with fail
            go_roundw
            case rel => exact ⟨k + 1, by omega, by go_num, by rw [HS.out]; exact HOWN.out, HNQ.out⟩
            case measure => simp [intOf]; omega
        · obtain rfl : k = X := by omega
          have HNQ := Lib.hid hnq
          have HOWN := Lib.hid hown
          clear hnq hown
          go_wp2_with fail
          go_roundw
          case rel => exact ⟨1, by omega, by go_num, by simpa using HOWN.out, HNQ.out⟩
          case measure => simp [intOf]
    · have hown0 : wr.ownsRow B 23 1 u8 (wantN xs t X ++ wantN xs f 0).length (u64c (wantN xs t X ++ wantN xs f 0)) := by simpa [wantN] using hown
      have HO := Lib.hid hown0
      clear hown hown0 HFD
      have hpl : (wantN xs t X).length ≤ 40 := by first | (simp; done) | (have := wantN_len xs t X; omega)
      rw [show ((1 : Nat) : Int) = 1 from rfl]
      go_wp2_with fail
      go_loopw [8, 10] (fun v i wr => ∃ (k : Nat), k ≤ X ∧ i = .int .i64 k ∧ wr.ownsRow B 23 1 v (wantN xs t X ++ wantN xs f k).length (u64c (wantN xs t X ++ wantN xs f k)) ∧ New w1 wr) (fun _ i _ => X - (intOf i).toNat)
      case atStart => exact ⟨0, by omega, rfl, HO.out, HNR.out⟩
      case round =>
        clear HO HNR
        obtain ⟨k, hk, rfl, hown, hnq⟩ := hrel
        have hBq : B ≤ wr.heap.size := by rw [← HBB.out]; exact hnq.size
        by_cases hlt : k < X
        · obtain ⟨x, hxk⟩ : ∃ x, xs[k]? = some x := by
            have : k < xs.length := by rw [HXL.out]; exact hlt
            exact ⟨_, List.getElem?_eq_getElem this⟩
          obtain ⟨g, off, rfl, hg1, hc1⟩ := HX.out.keep (HN.out.trans hnq) k _ hxk
          have hs := wantN_succ xs f k
          rw [List.getD_eq_getElem?_getD, hxk, Option.getD_some] at hs
          have hxb := HXF.out x (List.mem_of_getElem? hxk)
          have hwl := wantN_len xs f k
          have hll : (wantN xs t X ++ wantN xs f k).length ≤ 80 := by rw [List.length_append]; omega
          by_cases hax : x % 5 = f
          · rw [if_pos hax] at hs
            have HS := Lib.hid hs
            have HNQ := Lib.hid hnq
            have d1 : ((x : Int) % 5 == (f : Int)) = true := by simp; omega
            clear hs hxk hnq hax hwl hpl
            generalize hl0 : wantN xs t X ++ wantN xs f k = l at *
            have HL0 := Lib.hid hl0
            have HOWN := Lib.hid hown
            clear hl0 hown
            go_wp2_with (at_builtin; go_loud (refine wpList_append_own _ rfl (.tmp 77) (.tmp 81) 22 rfl B 23 i0 _ 1 8 Try.underlying22 hi hz0 hz1 hz2 rfl (by decide) _ _ _ rfl (HOWN.out.alloc _) ⟨wr.heap.size, 0, none⟩ 1 1 [.int .u64 ((k + 1 : Nat) : Int)] rfl rfl (Arr.add (Arr.new _ _ _)) (by simp [Value.oneCell']) (by unfold maxLen; omega) (by omega) (by simp; omega) ?_; intro v' w3 hown3 hgrow hnil; clear hnil))
            have hn3 : New w1 w3 := HNQ.out.then (((Fr.refl (fun k => B ≤ k) wr).alloc _).grown hgrow (fun k hk _ => (HOWN.out.lt k hk).1)) (fun i hi e => by have := HBB.out; omega)
            have HN3 := Lib.hid hn3
            have HO3 := Lib.hid hown3
            clear hn3 hown3 hgrow
            go_roundw
            case rel => exact ⟨k + 1, by omega, by go_num, by rw [HS.out, ← List.append_assoc, HL0.out, ← u64c_snoc, List.length_append]; exact HO3.out, HN3.out⟩
            case measure => simp [intOf]; omega
          · rw [if_neg hax] at hs
            have HS := Lib.hid hs
            have HNQ := Lib.hid hnq
            have HOWN := Lib.hid hown
            have d1 : ((x : Int) % 5 == (f : Int)) = false := by rw [beq_eq_false_iff_ne]; omega
            clear hs hxk hnq hax hwl hpl hll hown
            go_wp2_with fail
            go_roundw
            case rel => exact ⟨k + 1, by omega, by go_num, by rw [HS.out]; exact HOWN.out, HNQ.out⟩
            case measure => simp [intOf]; omega
        · obtain rfl : k = X := by omega
          have HNQ := Lib.hid hnq
          have HOWN := Lib.hid hown
          clear hnq hown
          go_wp2_with fail
          go_roundw
          case rel => exact ⟨2, by omega, by go_num, by simpa using HOWN.out, HNQ.out⟩
          case measure => simp [intOf]
    · rw [show ((2 : Nat) : Int) = 2 from rfl]
      obtain ⟨ao2, cap2, rfl, hnb⟩ := natsB_own hown
      rw [if_neg (by omega), if_pos rfl] at hnb ⊢
      rw [← HW.out] at hnb ⊢
      obtain ⟨W, hWW⟩ : ∃ W, wantOf L f t = W := ⟨_, rfl⟩
      obtain ⟨nW, hnW⟩ : ∃ n, W.length = n := ⟨_, rfl⟩
      rw [hWW] at hnb ⊢
      rw [hnW]
      have hnl : nW ≤ 80 := by
        have h1 := wantN_len xs t X
        have h2 := wantN_len xs f X
        rw [← hnW, ← hWW, HW.out, List.length_append]; omega
      have HNB := Lib.hid hnb
      have HWW := Lib.hid hWW
      have HNW := Lib.hid hnW
      have HK := Lib.hid (show Keep w.heap.size B qb lb mb L w wr from ⟨HR.out.new HNR.out, HB.out, (HN.out.trans HNR.out).mono (fun _ _ h => h.elim)⟩)
      clear hown hnb hWW hnW HR HB HN HNR HW HFD HBB
      go_wp2_with fail
      go_loopg [11] ((onA L f).length + 1) (fun gg _ wr => ∃ L', gg = (onA L' f).length + 1 ∧ wantOf L' f t = W ∧ (∀ s ∈ L', s.mask = 1) ∧ NatsB B wr ao2 W ∧ Keep w.heap.size B qb lb mb L' w wr)
      case atStart => exact ⟨L, rfl, HWW.out, HMK.out, HNB.out, HK.out⟩
      case round =>
        clear HWW HMK HNB HK HFI
        obtain ⟨L', rfl, hwl, hmk, hnb, hk⟩ := hrel
        have HWL := Lib.hid hwl
        have HMK := Lib.hid hmk
        have HNB := Lib.hid hnb
        have HK := Lib.hid hk
        clear hwl hmk hnb hk
        cases hx : anyOf L' f with
        | some s =>
          obtain ⟨m1, m2⟩ := move_want HK.out.rep.once hft hx
          have hmv := move_ok qb lb mb 4 L' f t s wr HK.out.rep (by omega) (by omega) hx
          have hsm := anyOf_mem hx
          have HMV := Lib.hid hmv
          have HM1 := Lib.hid (m1.trans HWL.out)
          have HM2 := Lib.hid (move_masks (t := t) hsm HMK.out)
          have HBT := Lib.hid (betw_move HK.out.betw hsm t)
          clear hx m1 hmv hsm
          go_wp2_with fail
          refine HMV.out.mono ?_
          rintro e w3 ⟨rfl, hr3, hf3⟩
          have HK3 := Lib.hid (HK.out.turn hr3 hf3 HBT.out)
          have HNB3 := Lib.hid (HNB.out.keep hf3 (fun k hk => (HK.out.betw k hk).2))
          clear hr3 hf3 HMV
          go_wp2_with fail
          go_roundg ((onA (without L' s.id ++ [{ s with addr := t }]) f).length + 1)
          case measure => omega
          case rel => exact ⟨_, rfl, HM1.out, HM2.out, HNB3.out, HK3.out⟩
        | none =>
          have HMV := Lib.hid (move_none qb lb mb 4 L' f t wr HK.out.rep (by omega) hx)
          have hf0 : onA L' f = [] := by rw [anyOf_on] at hx; simpa using hx
          have HF0 := Lib.hid hf0
          have HON := Lib.hid (show (onA L' t).map Sl.id = W by have := want_at (W := W) (k := 0) (by rw [List.drop_zero]; exact HWL.out) hf0; simpa using this)
          clear hx hf0
          go_wp2_with fail
          refine HMV.out.mono ?_
          rintro e w3 ⟨rfl, hn3⟩
          have HK3 := Lib.hid (HK.out.new hn3)
          have HNB3 := Lib.hid (HNB.out.keep hn3 (fun _ h => h.elim))
          clear hn3 HMV HK HNB
          go_wp2_with fail
          go_loopw [13] (fun i wr => ∃ k : Nat, k ≤ nW ∧ i = .int .i64 k ∧ NatsB B wr ao2 W ∧ Keep w.heap.size B qb lb mb L' w wr) (fun i _ => nW - (intOf i).toNat)
          case atStart => exact ⟨0, by omega, rfl, HNB3.out, HK3.out⟩
          case round =>
            clear HNB3 HK3
            obtain ⟨k, hkn, rfl, hnb, hk⟩ := hrel
            have HK := Lib.hid hk
            have HNB := Lib.hid hnb
            by_cases hlt : k < nW
            · obtain ⟨s, hs, e1, e2⟩ := onA_id HON.out (k := k) (by rw [HNW.out]; exact hlt)
              have hxk : W[k]? = some s.id := by
                have : k < W.length := by rw [HNW.out]; exact hlt
                rw [e1, List.getD_eq_getElem?_getD, List.getElem?_eq_getElem this]; rfl
              obtain ⟨g, rfl, hg1, hg2, hg3⟩ := hnb k _ hxk
              have hwh := where_ok qb lb mb 4 L' s wr hk.rep hs
              rw [HMK.out s hs, e2] at hwh
              have HWH := Lib.hid hwh
              have hea := hk.rep.each s hs
              clear hwh hnb hk e1 e2 hxk hs
              go_wp2_with fail
              refine HWH.out.mono ?_
              rintro e w4 ⟨rfl, hn4⟩
              have HK4 := Lib.hid (HK.out.new hn4)
              have HNB4 := Lib.hid (HNB.out.keep hn4 (fun _ h => h.elim))
              clear hn4 HK HNB HWH
              go_wp2_with fail
              go_roundw
              case rel => exact ⟨k + 1, by omega, by go_num, HNB4.out, HK4.out⟩
              case measure => simp [intOf]; omega
            · obtain rfl : nW = k := by omega
              clear hnb hk
              go_wp2_with fail
              go_loopw [18] (fun i wr => ∃ (k : Nat) (M : List Sl), k ≤ nW ∧ i = .int .i64 k ∧ (onA M t).map Sl.id = W.drop k ∧ onA M f = [] ∧ (∀ s ∈ M, s.mask = 1) ∧ NatsB B wr ao2 W ∧ Keep w.heap.size B qb lb mb M w wr) (fun i _ => nW - (intOf i).toNat)
              case atStart => exact ⟨0, L', by omega, rfl, by rw [List.drop_zero]; exact HON.out, HF0.out, HMK.out, HNB.out, HK.out⟩
              case round =>
                clear HNB HK HON HF0 HMK HWL
                obtain ⟨k, M, hkn, rfl, hon, hf0, hmk, hnb, hk⟩ := hrel
                have HK := Lib.hid hk
                have HNB := Lib.hid hnb
                have HON := Lib.hid hon
                have HF0 := Lib.hid hf0
                have HMK := Lib.hid hmk
                by_cases hlt : k < nW
                · obtain ⟨s, s1, s2, s3, s4, s5, s6⟩ := onA_take hk.rep.once hon (by rw [HNW.out]; exact hlt)
                  have hxk : W[k]? = some s.id := by
                    have : k < W.length := by rw [HNW.out]; exact hlt
                    rw [s2, List.getD_eq_getElem?_getD, List.getElem?_eq_getElem this]; rfl
                  have HXK := Lib.hid hxk
                  have hea := hk.rep.each s s3
                  have HTK := Lib.hid (take_ok qb lb mb 4 M t 1 s wr hk.rep (by omega) (by omega) (by rw [firstOf_on hmk]; exact s1))
                  have HS5 := Lib.hid s5
                  have HS6 := Lib.hid (s6 f hf0)
                  have HM2 := Lib.hid (show ∀ x ∈ without M s.id, x.mask = 1 from fun x hx => hmk x (List.mem_filter.1 hx).1)
                  clear hk hnb hon hf0 hmk s1 s2 s3 s4 s5 s6 hxk
                  go_wp2_with fail
                  refine HTK.out.mono ?_
                  rintro e w4 ⟨rfl, hr4, hf4⟩
                  have hnb4 := HNB.out.keep hf4 (fun k hk => (HK.out.betw k hk).2)
                  have HK4 := Lib.hid (HK.out.turn hr4 hf4 (betw_without HK.out.betw s.id))
                  have HNB4 := Lib.hid hnb4
                  obtain ⟨g, rfl, hg1, hg2, hg3⟩ := hnb4 k _ HXK.out
                  have d1 : ((s.id : Int) != (s.id : Int)) = false := by simp
                  clear hr4 hf4 hnb4 HTK HK HNB
                  go_wp2_with fail
                  go_roundw
                  case rel => exact ⟨k + 1, _, by omega, by go_num, HS5.out, HS6.out, HM2.out, HNB4.out, HK4.out⟩
                  case measure => simp [intOf]; omega
                · obtain rfl : nW = k := by omega
                  have ht0 : onA M t = [] := by
                    rw [List.drop_eq_nil_of_le (by rw [HNW.out]; omega)] at hon
                    simpa using hon
                  have x1 : firstOf M f 1 = none := by rw [firstOf_on hmk, hf0]; rfl
                  have x2 : firstOf M t 1 = none := by rw [firstOf_on hmk, ht0]; rfl
                  have hh1 := fun w' (n : New wr w') => has_any qb lb mb 4 M f 1 w' (hk.rep.new n) (by omega) (by omega)
                  have hh2 := fun w' (n : New wr w') => has_any qb lb mb 4 M t 1 w' (hk.rep.new n) (by omega) (by omega)
                  rw [x1] at hh1
                  rw [x2] at hh2
                  have HH1 := Lib.hid hh1
                  have HH2 := Lib.hid hh2
                  clear hk hnb hon hf0 hmk ht0 x1 x2 hh1 hh2
                  go_wp2_with fail
                  refine (HH1.out _ (Fr.refl _ _)).mono ?_
                  rintro e w4 ⟨rfl, hn4⟩
                  have HN4 := Lib.hid hn4
                  clear hn4
                  go_wp2_with fail
                  refine (HH2.out _ HN4.out).mono ?_
                  rintro e w5 ⟨rfl, hn5⟩
                  have HN5 := Lib.hid (HN4.out.trans hn5)
                  clear hn5
                  go_wp2_with fail
                  refine (awake_any _).mono ?_
                  rintro e w6 ⟨rfl, hn6⟩
                  have HN6 := Lib.hid (HN5.out.trans hn6)
                  clear hn6
                  go_wp2
                  go_ret
                  exact ⟨rfl, (HK.out.new HN6.out).fr.mono (fun k hk h => by omega)⟩

end Go.Proofs.Yteeckkkbmlkkiaa
