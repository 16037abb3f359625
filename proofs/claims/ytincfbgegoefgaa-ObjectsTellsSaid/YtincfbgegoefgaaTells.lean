/- The statement's own walk. -/
import Derived.Test.YtincfbgegoefgaaObjF
import Derived.Test.YtincfbgegoefgaaObjH
import Derived.BigQuiet
import Derived.Deep.QuietTactic
namespace Go.Proofs.Ytincfbgegoefgaa
open Go.RowKit Go.Shelf

theorem u64Info : (Try.prog.info? 29).map (fun i => (i.zero, i.size, i.bytes)) = some (some (.int .u64 0), 1, 8) := by kernel_rfl

/-- Cells of bools, as a slice holds them. -/
def Bools (w : World) (ao : Option Addr) (gs : List Bool) : Prop :=
  ∀ j, j < gs.length → ∃ b off, ao = some ⟨b, off, none⟩ ∧ b < w.heap.size ∧ w.cell? ⟨b, off + j, none⟩ = some (.bool (gat gs j))

theorem step_no {w wr w2 w3 : World} {b rb B n : Nat} {l : List Row} {v : Value} {xs : List Value} {o : Obj} (hn : New w wr) (hf : Fr (· = rb) wr w2) (hr : ObjRep w2 b rb l) (hown : w2.ownsRow B 29 1 v n xs)
    (hg : (w2.alloc o).grownBy w3 v.ownBlock) (hb : b < B) (hrb : rb < B) (hwr : w.heap.size ≤ rb) (hBr : B ≤ wr.heap.size) :
    ObjRep w3 b rb l ∧ New w w3 ∧ B ≤ w3.heap.size := by
  have f3 : Fr (fun k => B ≤ k) w2 w3 := ((Fr.refl _ w2).alloc o).grown hg (fun k hk _ => (hown.lt k hk).1)
  have := hf.size
  have := f3.size
  exact ⟨hr.keep f3 (by omega) (by omega), (hn.then hf (fun i hi e => by omega)).then f3 (fun i hi e => by omega), by omega⟩

theorem ends_l {w : World} {base : Nat} {ao : Option Addr} {ks : List Nat} {m : Nat}
    (h : ∀ j u, (((ks.map fun j => (j + 1, j)).take m).flatMap pairCells)[j]? = some u → ∃ g, ao = some ⟨g, 0, none⟩ ∧ base ≤ g ∧ g < w.heap.size ∧ w.cell? ⟨g, j, none⟩ = some u) :
    ∀ i, i < ((ks.map fun j => (j + 1, j)).take m).length → ∃ g x, ks[i]? = some x ∧ ao = some ⟨g, 0, none⟩ ∧ w.cell? ⟨g, i * 2, none⟩ = some (.int .u64 ((x + 1 : Nat) : Int)) ∧ w.cell? ⟨g, i * 2 + 1, none⟩ = some (.int .u64 (x : Int)) := by
  intro i hi
  have hi' : i < m ∧ i < ks.length := by simpa [Nat.lt_min] using hi
  have hx : ks[i]? = some ks[i] := by simp [hi'.2]
  have hp : ((ks.map fun j => (j + 1, j)).take m)[i]? = some (ks[i] + 1, ks[i]) := by simp [hi'.1, hi'.2]
  obtain ⟨g, h1, h2, h3, h4⟩ := h (i * 2 + 0) (.int .u64 ((ks[i] + 1 : Nat) : Int)) (by rw [get_flatMap pairCells 2 pairCells_len _ _ _ (by omega), hp]; rfl)
  obtain ⟨g', h1', h2', h3', h4'⟩ := h (i * 2 + 1) (.int .u64 (ks[i] : Int)) (by rw [get_flatMap pairCells 2 pairCells_len _ _ _ (by omega), hp]; rfl)
  obtain rfl : g = g' := by rw [h1] at h1'; cases h1'; rfl
  exact ⟨g, ks[i], hx, h1, h4, h4'⟩
theorem ends_w {w : World} {base : Nat} {ao : Option Addr} {gs : List Bool}
    (h : ∀ j u, (wantCells gs 20)[j]? = some u → ∃ g, ao = some ⟨g, 0, none⟩ ∧ base ≤ g ∧ g < w.heap.size ∧ w.cell? ⟨g, j, none⟩ = some u) :
    ∀ i x, (keeps gs 20)[i]? = some x → ∃ g, ao = some ⟨g, 0, none⟩ ∧ w.cell? ⟨g, i, none⟩ = some (.int .u64 ((x + 1 : Nat) : Int)) := by
  intro i x hx
  obtain ⟨g, h1, _, _, h4⟩ := h i (.int .u64 ((x + 1 : Nat) : Int)) (by unfold wantCells; rw [List.getElem?_map, hx]; rfl)
  exact ⟨g, h1, h4⟩

set_option maxHeartbeats 4000000 in
theorem tells_walk (gs : List Bool) (ao : Option Addr) (cap : Nat) (most : Int) (w : World) (hm : gs.length ≤ 9223372036854775807) (hg : Bools w ao gs)
    (h1 : -9223372036854775808 ≤ most) (h2 : most ≤ 9223372036854775807) :
    Calls Try.prog 3 #[.slice ao gs.length cap, .int .i64 most] w fun e w' => e = .returned (.bool true) ∧ New w w' := by
  obtain ⟨i0, hi, hz0, hz1, hz2⟩ := info_parts u64Info
  have HG := Lib.hid hg
  clear hg
  go_enter Try.func3, Try.ntmps3
  go_wp2_with fail
  refine (new_any 20 _ (by omega) (by omega)).mono ?_
  rintro e w1 ⟨b, rb, rfl, hb, hrb, hr, hn1⟩
  have hrlt := hr.rows.lt
  have hblt := hr.hd.lt
  have hs1 := hn1.size
  have HR := Lib.hid hr
  have HN := Lib.hid hn1
  clear hr hn1
  go_wp2_with fail
  go_loopw [7, 8] (fun v i wr => ∃ k : Nat, k ≤ 20 ∧ i = .int .i64 k ∧ ObjRep wr b rb (rowsAt k) ∧ wr.ownsRow w1.heap.size 29 1 v (keeps gs k).length (wantCells gs k) ∧ New w wr ∧ w1.heap.size ≤ wr.heap.size) (fun _ i _ => 20 - (intOf i).toNat)
  case atStart => exact ⟨0, by omega, rfl, HR.out, World.ownsRow_nil _ _ _ _, HN.out, Nat.le_refl _⟩
  case round =>
    obtain ⟨k, hk, rfl, hrk, hown, hnk, hsk⟩ := hrel
    have HRK := Lib.hid hrk
    have HNK := Lib.hid hnk
    have hkl := keeps_le gs k
    clear hrk hnk
    have HOWN := Lib.hid hown
    clear hown
    by_cases hlt : k < 20
    · have HM := Lib.hid (make_ok b rb (rowsAt k) 3 k k ⟨0, 0, 0, 0⟩ wr HRK.out (by omega) (by omega) (rowsAt_get k hlt) (by decide) rfl (fun q r h => rowsAt_lt k q r h))
      by_cases hl : k < gs.length
      · obtain ⟨gb, goff, rfl, hgb, hgc⟩ := HG.out k hl
        cases hgk : gat gs k with
        | true =>
          rw [hgk] at hgc
          have hw := wantCells_yes gs k hgk
          have HW := Lib.hid hw
          clear hgk hw
          have hgb1 : gb < wr.heap.size := by omega
          go_wp2_with (go_at_call 5; refine HM.out.mono ?_; rintro e w2 ⟨rfl, hr2, hf2⟩; rw [rowsAt_succ] at hr2; have hc2 := (hf2.cell (b := gb) hgb1 (by omega) (goff + k)).trans ((HNK.out.cell hgb id (goff + k)).trans hgc); have HR2 := Lib.hid hr2; have HF2 := Lib.hid hf2; have hown2 := own_keep HOWN.out hf2 (fun j h1 h2 => by omega); clear hr2 hf2)
          go_roundw
          case rel => exact ⟨k + 1, by omega, by go_num, HR2.out, by rw [HW.out.1, HW.out.2]; exact hown2, HNK.out.then HF2.out (fun i hi e => by omega), by have := HF2.out.size; omega⟩
          case measure => simp [intOf]; omega
        | false =>
          rw [hgk] at hgc
          have hw := wantCells_no gs k hgk
          have HW := Lib.hid hw
          clear hgk hw
          have hgb1 : gb < wr.heap.size := by omega
          go_wp2_with (first
            | (go_at_call 5; refine HM.out.mono ?_; rintro e w2 ⟨rfl, hr2, hf2⟩; rw [rowsAt_succ] at hr2; have hc2 := (hf2.cell (b := gb) hgb1 (by omega) (goff + k)).trans ((HNK.out.cell hgb id (goff + k)).trans hgc); have HR2 := Lib.hid hr2; have HF2 := Lib.hid hf2; have hown2 := own_keep HOWN.out hf2 (fun j h1 h2 => by omega); clear hr2 hf2)
            | (at_builtin; refine wpList_append_own _ rfl (.tmp 48) (.tmp 50) 28 rfl w1.heap.size 29 i0 _ 1 8 Try.underlying28 hi hz0 hz1 hz2 rfl (by decide) _ _ _ rfl (hown2.alloc _) ⟨w2.heap.size, 0, none⟩ 1 1 [.int .u64 ((k + 1 : Nat) : Int)] rfl rfl (Arr.add (Arr.new _ _ _)) (by simp [Value.oneCell']) (by unfold maxLen; omega) (by omega) (by have := HF2.out.size; simp; omega) ?_; intro v' w3 hown3 hgrow hnil; clear hnil))
          obtain ⟨s1, s2, s3⟩ := step_no HNK.out HF2.out HR2.out hown2 hgrow hblt hrlt hrb hsk
          go_roundw
          case rel => exact ⟨k + 1, by omega, by go_num, s1, by rw [HW.out.1, HW.out.2]; exact hown3, s2, s3⟩
          case measure => simp [intOf]; omega
      · have hgk : gat gs k = false := by unfold gat; rw [List.getD_eq_getElem?_getD, List.getElem?_eq_none (by omega)]; rfl
        have hw := wantCells_no gs k hgk
        have HW := Lib.hid hw
        clear hgk hw
        go_wp2_with (first
          | (go_at_call 5; refine HM.out.mono ?_; rintro e w2 ⟨rfl, hr2, hf2⟩; rw [rowsAt_succ] at hr2; have HR2 := Lib.hid hr2; have HF2 := Lib.hid hf2; have hown2 := own_keep HOWN.out hf2 (fun j h1 h2 => by omega); clear hr2 hf2)
          | (at_builtin; refine wpList_append_own _ rfl (.tmp 48) (.tmp 50) 28 rfl w1.heap.size 29 i0 _ 1 8 Try.underlying28 hi hz0 hz1 hz2 rfl (by decide) _ _ _ rfl (hown2.alloc _) ⟨w2.heap.size, 0, none⟩ 1 1 [.int .u64 ((k + 1 : Nat) : Int)] rfl rfl (Arr.add (Arr.new _ _ _)) (by simp [Value.oneCell']) (by unfold maxLen; omega) (by omega) (by have := HF2.out.size; simp; omega) ?_; intro v' w3 hown3 hgrow hnil; clear hnil))
        obtain ⟨s1, s2, s3⟩ := step_no HNK.out HF2.out HR2.out hown2 hgrow hblt hrlt hrb hsk
        go_roundw
        case rel => exact ⟨k + 1, by omega, by go_num, s1, by rw [HW.out.1, HW.out.2]; exact hown3, s2, s3⟩
        case measure => simp [intOf]; omega
    · obtain rfl : k = 20 := by omega
      have hr0 := HRK.out
      rw [rowsG_zero gs] at hr0
      have HR0 := Lib.hid hr0
      clear hr0 HRK
      rw [show ((20 : Nat) : Int) = 20 from rfl]
      go_wp2_with fail
      go_loopw [11] (fun i wq => ∃ k : Nat, k ≤ 20 ∧ k ≤ gs.length ∧ i = .int .i64 k ∧ ObjRep wq b rb (rowsG gs k) ∧ wq.ownsRow w1.heap.size 29 1 u7 (keeps gs 20).length (wantCells gs 20) ∧ New w wq ∧ w1.heap.size ≤ wq.heap.size) (fun i _ => 20 - (intOf i).toNat)
      case atStart => exact ⟨0, by omega, by omega, rfl, HR0.out, HOWN.out, HNK.out, hsk⟩
      case round =>
        clear HR0 HOWN HNK hsk
        obtain ⟨k, hk1, hk2, rfl, hrk, hown, hnk, hsk⟩ := hrel
        have HRK := Lib.hid hrk
        have HNK := Lib.hid hnk
        have HOWN := Lib.hid hown
        clear hrk hnk hown
        by_cases hlt : k < 20 ∧ k < gs.length
        · obtain ⟨hl1, hl2⟩ := hlt
          obtain ⟨gb, goff, rfl, hgb, hgc⟩ := HG.out k hl2
          have hgc1 := (HNK.out.cell hgb id (goff + k)).trans hgc
          clear hgc
          have HM := Lib.hid (gone_ok b rb (rowsG gs k) k ⟨1, k + 1, 3, k⟩ wr HRK.out (by omega) (rowsG_get gs k hl1) rfl)
          cases hgk : gat gs k with
          | true =>
            rw [hgk] at hgc1
            have hy := rowsG_yes gs k hl1 hgk
            have HY := Lib.hid hy
            clear hgk hy
            go_wp2_with (go_at_call 6; refine HM.out.mono ?_; rintro e w2 ⟨rfl, hr2, hf2⟩; rw [HY.out] at hr2; have HR2 := Lib.hid hr2; have HF2 := Lib.hid hf2; clear hr2 hf2)
            go_roundw
            case rel => exact ⟨k + 1, by omega, by omega, by go_num, HR2.out, own_keep HOWN.out HF2.out (fun j h1 h2 => by omega), HNK.out.then HF2.out (fun i hi e => by omega), by have := HF2.out.size; omega⟩
            case measure => simp [intOf]; omega
          | false =>
            rw [hgk] at hgc1
            have hy := rowsG_no gs k hgk
            have HY := Lib.hid hy
            clear hgk hy
            go_wp2
            go_roundw
            case rel => exact ⟨k + 1, by omega, by omega, by go_num, by rw [← HY.out]; exact HRK.out, HOWN.out, HNK.out, hsk⟩
            case measure => simp [intOf]; omega
        · have hmin : k = min 20 gs.length := by omega
          have hT := rowsG_end gs k hmin
          have HT := Lib.hid hT
          clear hmin hT
          obtain ⟨m, hm0⟩ : ∃ m : Nat, 1 + most % 25 = (m : Int) := ⟨(1 + most % 25).toNat, by have := Int.emod_nonneg most (show (25 : Int) ≠ 0 by omega); omega⟩
          have hm1 : 1 ≤ m := by have := Int.emod_nonneg most (show (25 : Int) ≠ 0 by omega); omega
          have hm2 : m ≤ 25 := by have := Int.emod_lt_of_pos most (show (0 : Int) < 25 by omega); omega
          have hm3 : 0 ≤ most % 25 := by omega
          have hm4 : most % 25 < 25 := by omega
          have HM0 := Lib.hid hm0
          clear hm0
          by_cases hk20 : k < 20
          all_goals
            go_wp2_with (go_at_call 7; refine (within_any most 25 _ (by omega) (by omega) (by omega) (by omega)).mono ?_; rintro e w' ⟨rfl, rfl⟩)
            rw [HM0.out]
            refine (allL_any b rb (rowsG gs k) m _ HRK.out (by omega) (by omega)).mono ?_
            rintro e w2 ⟨v, rfl, hown2, hf2⟩
            rw [HT.out] at hown2
            have hk1 := keeps_le gs 20
            have HRW := Lib.hid (HRK.out.keep hf2 id id)
            have HNW := Lib.hid (HNK.out.trans hf2)
            clear HRK HNK
            have hlen : (((keeps gs 20).map fun j => (j + 1, j)).take m).length = min m (keeps gs 20).length := by simp
            obtain ⟨wo, wcap, rfl, hwc⟩ := owned_form (own_keep HOWN.out hf2 (fun j h1 => id))
            obtain ⟨lo, lcap, rfl, hlc⟩ := owned_form hown2
            have hlc0 := ends_l hlc
            have hwc0 := ends_w hwc
            generalize hN : (((keeps gs 20).map fun j => (j + 1, j)).take m).length = N at hlen ⊢
            generalize hK : (keeps gs 20).length = K at hlen hk1 ⊢
            have HLC := Lib.hid hlc0
            have HWC := Lib.hid hwc0
            have HK := Lib.hid hK
            have HN := Lib.hid hN
            clear hlc hwc hlc0 hwc0 hN hK hown2 HOWN
            have HNl := Lib.hid hlen
            have hc2 : m ≤ K ∨ K < m := by omega
            rcases hc2 with hmK | hmK
            all_goals
              have n1 : N ≤ m := by omega
              have n2 : N ≤ K := by omega
              have n3 : m ≤ K → m ≤ N := by omega
              have n4 : K < m → K ≤ N := by omega
              clear hlen HNl hf2
              first
                | (have n6 := n3 hmK; clear n3 n4)
                | (have n6 := n4 hmK; clear n3 n4)
              go_wp2_with fail
              go_loopw [14] (fun i wq => ∃ j : Nat, j ≤ N ∧ i = .int .i64 j ∧ New w2 wq) (fun i _ => N - (intOf i).toNat)
              case atStart => exact ⟨0, by omega, rfl, Fr.refl _ _⟩
              case round =>
                obtain ⟨j, hj, rfl, hnj⟩ := hrel
                by_cases hjN : j < N
                · obtain ⟨g, x, hx, rfl, d1, d2⟩ := HLC.out j (by rw [HN.out]; exact hjN)
                  obtain ⟨g2, rfl, d3⟩ := HWC.out j x hx
                  have hx20 := keeps_lt gs 20 x (List.mem_of_getElem? hx)
                  have hjK : j < K := by rw [← HK.out]; exact (List.getElem?_eq_some_iff.1 hx).1
                  have e1 := (hnj.cell (lt_of_cell d1) id _).trans d1
                  have e2 := (hnj.cell (lt_of_cell d2) id _).trans d2
                  have e3 := (hnj.cell (lt_of_cell d3) id _).trans d3
                  have HNJ := Lib.hid hnj
                  clear d1 d2 d3 hx hnj
                  rw [show ((x + 1 : Nat) : Int) = (x : Int) + 1 from by omega] at e1 e3
                  have hx0 : 0 ≤ (x : Int) := by omega
                  have t1 : (((x : Int) + 1) != ((x : Int) + 1)) = false := by simp
                  have t2 : ((x : Int) != (x : Int)) = false := by simp
                  clear HLC HWC HN HK HM0 HT HR HG
                  go_wp2_with fail
                  go_quiet (fail)
                  go_wp2
                  go_roundw
                  case rel => exact ⟨j + 1, by omega, by go_num, HNJ.out.drewN _⟩
                  case measure => simp [intOf]; omega
                · have HRL := Lib.hid (HRW.out.keep hnj id id)
                  have HNL := Lib.hid (HNW.out.trans hnj)
                  have htl : (told (rowsG gs k)).length = K := by rw [HT.out, List.length_map]; exact HK.out
                  have HTL := Lib.hid htl
                  clear hnj HLC HWC HN HK HM0 HT HR HG HRW HNW htl
                  go_wp2_with (first
                    | (go_at_call 9; refine (len_any b rb _ _ HRL.out).mono ?_; rintro e w3 ⟨rfl, hl3⟩; rw [HTL.out])
                    | (go_at_call 10; refine (awake_any _).mono ?_; rintro e w4 ⟨rfl, hl4⟩))
                  go_ret
                  exact ⟨rfl, (HNL.out.trans hl3).trans hl4⟩

end Go.Proofs.Ytincfbgegoefgaa
