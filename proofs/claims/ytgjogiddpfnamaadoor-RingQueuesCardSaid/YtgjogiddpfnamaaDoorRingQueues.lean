/- What is taken comes in the order in which it was put in: the statement's walk. -/
import Derived.Test.YtgjogiddpfnamaaDoorRingE
import Derived.Test.YtgjogiddpfnamaaDoorWithin
import Derived.Test.YtgjogiddpfnamaaDoorBools
namespace Go.Proofs.YtgjogiddpfnamaaDoor
open Go.RowKit Go.Shelf

/-- k numbers from a on. -/
def runFrom (a k : Nat) : List Nat := (List.range k).map (a + ·)
theorem runFrom_len (a k : Nat) : (runFrom a k).length = k := by simp [runFrom]
theorem runFrom_snoc (a k : Nat) : runFrom a (k + 1) = runFrom a k ++ [a + k] := by simp [runFrom, List.range_succ]
theorem runFrom_cons (a k : Nat) : runFrom a (k + 1) = a :: runFrom (a + 1) k := by
  unfold runFrom
  rw [List.range_succ_eq_map, List.map_cons, List.map_map]
  congr 1
  apply List.map_congr_left
  intro i _
  simp only [Function.comp]; omega

/-- The ring holds the numbers from out on, k of them. -/
def QRep (w : World) (b lb n out k : Nat) : Prop := ∃ cs f, RingRep w b lb cs f k ∧ cs.length = n ∧ ringL cs f k = runFrom out k

set_option maxRecDepth 100000 in
set_option maxHeartbeats 4000000 in
theorem queues_walk (m : Int) (gs : List Bool) (ao : Option Addr) (ca : Nat) (w : World) (hg : Laid w) (hb1 : -9223372036854775808 ≤ m) (hb2 : m ≤ 9223372036854775807) (hgs : Bools w ao gs) (hm : gs.length ≤ 9223372036854775807) :
    Calls Tryd.prog 4 #[.int .i64 m, .slice ao gs.length ca] w fun e w' => e = .returned (.bool true) ∧ New w w' := by
  obtain ⟨L, hL⟩ : ∃ L, gs.length = L := ⟨_, rfl⟩
  rw [hL] at hm ⊢
  obtain ⟨k0, hk0, hk1⟩ := within_nat m 9 (by omega)
  have HG := Lib.hid hg
  have HGS := Lib.hid hgs
  have HL := Lib.hid hL
  have HK := Lib.hid hk0
  clear hg hgs hL hk0
  go_enter Tryd.func4, Tryd.ntmps4
  go_wp2_with fail
  refine (within_any m 9 _ (by omega) (by omega) (by omega) (by omega)).mono ?_
  rintro e w' ⟨rfl, rfl⟩
  rw [HK.out]
  go_wp2_with fail
  rw [show (1 : Int) + (k0 : Int) = ((k0 + 1 : Nat) : Int) by omega]
  obtain ⟨n, hn⟩ : ∃ n, k0 + 1 = n := ⟨_, rfl⟩
  rw [hn]
  have hn1 : 1 ≤ n := by omega
  have hn9 : n ≤ 9 := by omega
  clear hn hk1 HK
  refine (new_any n _ hn1 (by omega)).mono ?_
  rintro e w1 ⟨b, lb, rfl, hb, hlb, hr, hn1'⟩
  have HQ := Lib.hid (show QRep w1 b lb n 0 0 from ⟨_, 0, hr, by simp, rfl⟩)
  have HN := Lib.hid hn1'
  clear hr hn1'
  go_wp2_with fail
  go_loopw [8, 9, 10] (fun s t i wr => ∃ (k x y : Nat), k ≤ L ∧ k ≤ 300 ∧ x ≤ k ∧ y ≤ x ∧ x - y ≤ n ∧ i = .int .i64 k ∧ s = .int .u64 x ∧ t = .int .u64 y ∧ QRep wr b lb n y (x - y) ∧ New w wr) (fun _ _ i _ => L - (intOf i).toNat)
  case atStart => exact ⟨0, 0, 0, by omega, by omega, by omega, by omega, by omega, rfl, rfl, rfl, HQ.out, HN.out⟩
  case round =>
    clear HQ HN
    obtain ⟨k, x, y, hk, hk3, hxk, hyx, hxy, rfl, rfl, rfl, hq, hnr⟩ := hrel
    have HNR := Lib.hid hnr
    have tsub : ((x : Int) - (y : Int)) = ((x - y : Nat) : Int) := by omega
    by_cases hend : k < L ∧ k < 300
    · obtain ⟨hlt, hlt3⟩ := hend
      obtain ⟨g, off, rfl, hg1, hc1⟩ := (HGS.out.keep hnr) k (by rw [HL.out]; exact hlt)
      obtain ⟨cs, f, hr, hcs, hrl⟩ := hq
      have HR := Lib.hid hr
      have HCS := Lib.hid hcs
      have HRL := Lib.hid hrl
      have HTS := Lib.hid tsub
      clear hnr hr hcs hrl tsub
      cases hgk : gat gs k with
      | true =>
        rw [hgk] at hc1
        clear hgk
        by_cases hfull : x - y = n
        · have t1 : ((x : Int) - (y : Int) == (n : Int)) = true := by rw [beq_iff_eq]; omega
          have HM := Lib.hid (put_full b lb cs f (x - y) x wr HR.out (by rw [HCS.out]; exact hfull))
          have HF := Lib.hid hfull
          clear hfull
          go_wp2_with fail
          refine HM.out.mono ?_
          rintro e w3 ⟨eb, rfl, he, hn3⟩
          have HN3 := Lib.hid (HNR.out.trans hn3)
          have HQ3 := Lib.hid (show QRep w3 b lb n y (x - y) from ⟨cs, f, HR.out.keep hn3 id id, HCS.out, HRL.out⟩)
          clear he hn3
          go_wp2_with fail
          go_roundw
          case rel => exact ⟨k + 1, x, y, by omega, by omega, by omega, by omega, by omega, by go_num, rfl, rfl, HQ3.out, HN3.out⟩
          case measure => simp [intOf]; omega
        · have t1 : ((x : Int) - (y : Int) == (n : Int)) = false := by rw [beq_eq_false_iff_ne]; omega
          have HM := Lib.hid (put_ok b lb cs f (x - y) x wr HR.out (by rw [HCS.out]; omega) (by omega))
          go_wp2_with fail
          refine HM.out.mono ?_
          rintro e w3 ⟨rfl, hr3, hf3⟩
          have HN3 := Lib.hid (HNR.out.then hf3 (fun i hi e => by unfold inRing at e; omega))
          have hp := ringL_put cs f (x - y) x HR.out.pos (by rw [HCS.out]; omega)
          rw [HRL.out, show runFrom y (x - y) ++ [x] = runFrom y (x - y + 1) by rw [runFrom_snoc]; congr 2; omega] at hp
          have HQ3 := Lib.hid (show QRep w3 b lb n y (x + 1 - y) from ⟨_, f, by rw [show x + 1 - y = x - y + 1 by omega]; exact hr3, by rw [List.length_set]; exact HCS.out, by rw [show x + 1 - y = x - y + 1 by omega]; exact hp⟩)
          clear hr3 hf3 hp
          go_wp2_with fail
          go_roundw
          case rel => exact ⟨k + 1, x + 1, y, by omega, by omega, by omega, by omega, by omega, by go_num, by go_num, rfl, HQ3.out, HN3.out⟩
          case measure => simp [intOf]; omega
      | false =>
        rw [hgk] at hc1
        clear hgk
        by_cases hxe : x = y
        · subst hxe
          have hng : ¬ ((x : Int) < (x : Int)) := by omega
          have h0 := HR.out
          rw [Nat.sub_self] at h0
          have HM := Lib.hid (take_nil b lb cs f wr h0)
          have HQ3 := Lib.hid (show QRep wr b lb n x (x - x) from ⟨cs, f, HR.out, HCS.out, HRL.out⟩)
          clear h0
          go_wp2_with fail
          refine HM.out.mono ?_
          rintro e w' ⟨rfl, rfl⟩
          go_wp2_with fail
          go_roundw
          case rel => exact ⟨k + 1, x, x, by omega, by omega, by omega, by omega, by omega, by go_num, rfl, rfl, HQ3.out, HNR.out⟩
          case measure => simp [intOf]; omega
        · obtain ⟨d, hd⟩ : ∃ d, x - y = d + 1 := ⟨x - y - 1, by omega⟩
          have hgt : (y : Int) < (x : Int) := by omega
          have t1 : ((y : Int) != (y : Int)) = false := by simp
          have h0 := HR.out
          have hr0 := HRL.out
          rw [hd] at h0 hr0
          rw [ringL_take cs f d h0.pos (by have := h0.len; omega), runFrom_cons] at hr0
          obtain ⟨e1, e2⟩ := List.cons.inj hr0
          have hm := take_ok b lb cs f d wr h0
          rw [e1] at hm
          have HM := Lib.hid hm
          have HD := Lib.hid hd
          have HE2 := Lib.hid e2
          clear hm h0 hr0 hd e1 e2
          go_wp2_with fail
          refine HM.out.mono ?_
          rintro e w3 ⟨rfl, hr3, hf3⟩
          have HN3 := Lib.hid (HNR.out.then hf3 (fun i hi e => by unfold inRing at e; omega))
          have hxd : x - (y + 1) = d := by have := HD.out; omega
          have HQ3 := Lib.hid (show QRep w3 b lb n (y + 1) (x - (y + 1)) from ⟨cs, _, by rw [hxd]; exact hr3, HCS.out, by rw [hxd]; exact HE2.out⟩)
          clear hr3 hf3 hxd
          go_wp2_with fail
          go_roundw
          case rel => exact ⟨k + 1, x, y + 1, by omega, by omega, by omega, by omega, by have := HD.out; omega, by go_num, rfl, by go_num, HQ3.out, HN3.out⟩
          case measure => simp [intOf]; omega
    · obtain ⟨cs, f, hr, hcs, hrl⟩ := hq
      have HR := Lib.hid hr
      have t1 : (((x - y : Nat) : Int) == ((x - y : Nat) : Int)) = true := by simp
      obtain ⟨d, hd⟩ : ∃ d, x - y = d := ⟨_, rfl⟩
      have HT := Lib.hid tsub
      have HD := Lib.hid hd
      clear hr hcs hrl hnr
      by_cases hkl : k < L
      all_goals
        go_wp2_with fail
        refine (len_any b lb cs f (x - y) wr HR.out).mono ?_
        rintro e w3 ⟨rfl, hn3⟩
        have HN3 := Lib.hid (HNR.out.trans hn3)
        clear hn3
        go_wp2_with fail
        refine (awake_any _ (HG.out.keep HN3.out id)).mono ?_
        rintro e w4 ⟨rfl, hn4⟩
        have HN4 := Lib.hid (HN3.out.trans hn4)
        clear hn4
        go_wp2
        go_ret
        exact ⟨rfl, HN4.out⟩

end Go.Proofs.YtgjogiddpfnamaaDoor
