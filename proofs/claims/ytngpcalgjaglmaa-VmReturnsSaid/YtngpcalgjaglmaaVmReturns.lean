/- Calls within calls come back to where they were: the statement's walk. -/
import Derived.Test.YtngpcalgjaglmaaVmJ
import Derived.Test.YtngpcalgjaglmaaWithin
import Derived.Test.YtngpcalgjaglmaaDocs
namespace Go.Proofs.Ytngpcalgjaglmaa
open Go.RowKit

def jsrC (i : Nat) : List Value := [.int .i64 15, .int .i64 0, .int .i64 0, .int .i64 0, .int .u64 ((i : Int) + 1), .int .i64 0, .int .i64 0]
def retC : List Value := [.int .i64 16, .int .i64 0, .int .i64 0, .int .i64 0, .int .u64 0, .int .i64 0, .int .i64 0]
def jsrs (n : Nat) : List Value := (List.range n).flatMap jsrC
theorem jsrC_len (i : Nat) : (jsrC i).length = 7 := rfl
theorem jsrs_len (n : Nat) : (jsrs n).length = n * 7 := by unfold jsrs; rw [len_flatMap jsrC 7 jsrC_len, List.length_range]
theorem jsrs_succ (n : Nat) : jsrs (n + 1) = jsrs n ++ jsrC n := by unfold jsrs; rw [List.range_succ, List.flatMap_append]; simp
theorem jsrs_at {n k j : Nat} (hk : k < n) (hj : j < 7) : (jsrs n)[k * 7 + j]? = (jsrC k)[j]? := by
  induction n with
  | zero => omega
  | succ n ih =>
    rw [jsrs_succ]
    by_cases h : k < n
    · rw [List.getElem?_append_left (by rw [jsrs_len]; omega)]; exact ih h
    · obtain rfl : k = n := by omega
      rw [List.getElem?_append_right (by rw [jsrs_len]; omega), jsrs_len]; congr 1; omega
theorem own_rowG {w : World} {base n size : Nat} {e : TypeId} {v : Value} {xs : List Value} (h : w.ownsRow base e size v n xs) (hn : 0 < n) : ∃ g c, v = .slice (some ⟨g, 0, none⟩) n c ∧ base ≤ g ∧ g < w.heap.size ∧ ∀ (j : Nat) u, xs[j]? = some u → w.cell? ⟨g, j, none⟩ = some u := by
  rcases h.2 with ⟨_, rfl⟩ | ⟨g, cap, cur, hv, h2, h3, r⟩
  · omega
  · subst hv
    refine ⟨g, cap, rfl, (h.lt g rfl).1, lt_of_block h3, fun j u hj => ?_⟩
    have := h.cells (g := g) rfl j u hj
    unfold Addr.add at this
    split at this
    · subst_vars; exact this
    · simpa using this
def rs77 : List Nat := [0, 0, 0, 0, 0, 77, 0, 0, 0, 0, 0, 0, 0, 0, 0, 0, 0, 0, 0, 0, 0, 0, 0, 0, 0, 0, 0, 0, 0, 0, 0, 0]
/-- The places to come back to behind i calls. -/
def bks : Nat → List Int
  | 0 => []
  | i + 1 => bks i ++ [(i : Int) + 1]
def frC7 : Array Value := #[.int .i64 0, .int .u64 0, .int .u64 0, .int .u64 0, .int .u64 0, .int .u64 0, .int .u64 77, .int .u64 0, .int .u64 0, .int .u64 0, .int .u64 0, .int .u64 0, .int .u64 0, .int .u64 0, .int .u64 0, .int .u64 0, .int .u64 0, .int .u64 0, .int .u64 0, .int .u64 0, .int .u64 0, .int .u64 0, .int .u64 0, .int .u64 0, .int .u64 0, .int .u64 0, .int .u64 0, .int .u64 0, .int .u64 0, .int .u64 0, .int .u64 0, .int .u64 0, .int .u64 0, .slice none 0 0]
theorem frC7_list : frC7.toList = [.int .i64 0] ++ (rs77.map fun x : Nat => Value.int .u64 x) ++ [.slice none 0 0] := rfl
theorem fm_block7 {w : World} {b : Nat} {T : TypeId} (h : w.heap[b]? = some (.cells frC7 T (0, 0))) : FmAt w b 0 (.slice none 0 0) ⟨((0 : Nat) : Int), rs77, []⟩ := by
  refine ⟨⟨lt_of_block h, (cell_of_block h 0).trans rfl, fun i x hx => ?_, (cell_of_block h (0 + 33)).trans rfl, free_of_block h, rfl, by decide⟩, World.ownsRow_nil _ _ _ _, (fun k hk => by cases hk), by simp⟩
  have hx : rs77[i]? = some x := hx
  have hi : i < 32 := (List.getElem?_eq_some_iff.1 hx).1
  rw [cell_of_block h, ← Array.getElem?_toList, frC7_list, show 0 + 1 + i = i + 1 by omega]
  rw [List.append_assoc, List.getElem?_append_right (by simp), List.getElem?_append_left (by simp [rs77]; omega)]
  rw [show i + 1 - [Value.int .i64 0].length = i by simp, List.getElem?_map, hx]; rfl
theorem bks_len : ∀ i, (bks i).length = i
  | 0 => rfl
  | i + 1 => by rw [bks, List.length_append, bks_len]; rfl
theorem jump_bk (i : Nat) (h : i < 8) : jumpN 15 0 (i + 1) ⟨(i : Int), rs77, bks i⟩ = (0, ⟨((i + 1 : Nat) : Int), rs77, bks (i + 1)⟩) := by
  unfold jumpN
  rw [if_neg (by decide), if_pos rfl, if_neg (by rw [bks_len]; omega)]
  rfl
theorem jump_full (i : Nat) (h : 8 ≤ i) : jumpN 15 0 (i + 1) ⟨(i : Int), rs77, bks i⟩ = (3, ⟨(i : Int), rs77, bks i⟩) := by
  unfold jumpN
  rw [if_neg (by decide), if_pos rfl, if_pos (by rw [bks_len]; omega)]
theorem jump_back (i : Nat) (p : Int) : jumpN 16 0 0 ⟨p, rs77, bks (i + 1)⟩ = (0, ⟨(i : Int) + 1, rs77, bks i⟩) := by
  unfold jumpN
  rw [if_pos rfl, if_neg (by rw [bks]; simp), bks]
  simp [List.getLastD_eq_getLast?]
theorem jump_home (p : Int) : jumpN 16 0 0 ⟨p, rs77, bks 0⟩ = (2, ⟨p, rs77, bks 0⟩) := by
  unfold jumpN
  rw [if_pos rfl, if_pos (show bks 0 = [] from rfl)]
theorem good_jsr {V m : Nat} (h : V < m) : goodV 15 0 0 0 V m = true := by
  show mayB 15 0 0 0 V 0 0 m true = true
  rw [mayB_plc 15 0 0 0 V m true (by decide), decide_eq_true h]
  decide
theorem good_ret (m : Nat) : goodV 16 0 0 0 0 m = true := by
  show mayB 16 0 0 0 0 0 0 m true = true
  have h := mayB_not 16 0 0 0 0 m true (by decide)
  rw [show ((0 : Nat) : Int) = 0 from rfl] at h
  rw [h]
  decide

set_option maxRecDepth 100000 in
set_option maxHeartbeats 8000000 in
theorem returns_walk (d : Int) (w : World) (hd : -9223372036854775808 ≤ d ∧ d ≤ 9223372036854775807) :
    Calls Try.prog 5 #[.int .i64 d] w fun e w' => e = .returned (.bool true) ∧ New w w' := by
  obtain ⟨n, hq, hn11⟩ := within_nat d 11 (by omega)
  have hwd := within_any d 11 w (by omega) (by omega) hd.1 hd.2
  rw [hq] at hwd
  have HWD := Lib.hid hwd
  have hn : n < 11 := by omega
  obtain ⟨i0, hi, hz0, hz1, hz2⟩ := info_parts (show (Try.prog.info? 24).map (fun i => (i.zero, i.size, i.bytes)) = some (some (.agg #[.int .i64 0, .int .i64 0, .int .i64 0, .int .i64 0, .int .u64 0, .int .i64 0, .int .i64 0]), 7, 56) by kernel_rfl)
  clear hq hwd hn11
  go_enter Try.func5, Try.ntmps5
  go_wp2_with (go_at_call 14; refine HWD.out.mono ?_; rintro e w1 ⟨rfl, rfl⟩)
  go_loopw [4, 5] (fun v i wr => ∃ k : Nat, k ≤ n ∧ i = .int .i64 k ∧ wr.ownsRow w.heap.size 24 7 v k (jsrs k) ∧ New w wr) (fun _ i _ => n - (intOf i).toNat)
  case atStart => exact ⟨0, by omega, rfl, World.ownsRow_nil _ _ _ _, Fr.refl _ _⟩
  case round =>
    obtain ⟨k, hk, rfl, hown, hnw⟩ := hrel
    obtain ⟨ao, cap, rfl, _⟩ := owned_form hown
    have HNW := Lib.hid hnw
    have hsz := hnw.size
    clear hnw
    by_cases hlt : k < n
    · have q2 : (k : Int) < (n : Int) := by omega
      have tw : IntKind.u64.wrap ((k : Int) + 1) = (k : Int) + 1 := IntWalk.u64_in _ (by omega)
      have tw2 : IntKind.i64.wrap ((k : Int) + 1) = (k : Int) + 1 := IntWalk.i64_in _ (by omega)
      go_wp2_with (at_builtin; refine wpList_append_src rfl (.tmp 22) (.tmp 27) 39 rfl w.heap.size 24 i0 _ 7 56 Try.underlying39 hi hz0 hz1 hz2 rfl (by decide) _ k _ rfl (hown.alloc _) (some ⟨wr.heap.size, 0, none⟩) 1 1 (jsrC k) rfl rfl (.inr ⟨_, rfl, by simp, Arr.add (Arr.new _ _ _)⟩) (by simp [jsrC, Value.oneCell']) (by unfold maxLen; omega) (by omega) (by simp; omega) ?_; intro v2 w2 hown2 hgrow2; have f2 : Fr (fun j => w.heap.size ≤ j) wr w2 := ((Fr.refl _ wr).alloc _).grown hgrow2 (fun j hj _ => (hown.lt j hj).1); obtain ⟨ao2, cap2, rfl, _⟩ := owned_form hown2; have HO2 := Lib.hid hown2; have F2 := Lib.hid f2; clear hgrow2 hown2 f2)
      go_roundw
      case rel => exact ⟨k + 1, by omega, by go_num, by rw [jsrs_succ]; exact HO2.out, HNW.out.then F2.out (fun i hi e => by omega)⟩
      case measure => simp [intOf]; omega
    · obtain rfl : n = k := by omega
      go_wp2_with (at_builtin; refine wpList_append_src rfl (.tmp 29) (.tmp 31) 39 rfl w.heap.size 24 i0 _ 7 56 Try.underlying39 hi hz0 hz1 hz2 rfl (by decide) _ n _ rfl (hown.alloc _) (some ⟨wr.heap.size, 0, none⟩) 1 1 retC rfl rfl (.inr ⟨_, rfl, by simp, Arr.add (Arr.new _ _ _)⟩) (by simp [retC, Value.oneCell']) (by unfold maxLen; omega) (by omega) (by simp; omega) ?_; intro v2 w2 hown2 hgrow2; have f2 : Fr (fun j => w.heap.size ≤ j) wr w2 := ((Fr.refl _ wr).alloc _).grown hgrow2 (fun j hj _ => (hown.lt j hj).1); obtain ⟨cg, cap2, rfl, hcg1, hcg2, hcells⟩ := own_rowG hown2 (by omega); have HCE := Lib.hid hcells; have N2 := Lib.hid (HNW.out.then f2 (fun i hi e => by omega)); clear hgrow2 hown2 f2 hcells)
      clear hown
      have hJ : ∀ (w' : World) (S : Nat → Prop) (f : Fr S w2 w') (hS : ¬ S cg) (k : Nat), k < n → InsAt w' cg 0 k 15 0 0 0 (k + 1) 0 0 := fun w' S f hS k hk => by
        have hc : ∀ j u, (jsrC k)[j]? = some u → w'.cell? ⟨cg, 0 + k * 7 + j, none⟩ = some u := fun j u hu => by
          have hj7 : j < 7 := (List.getElem?_eq_some_iff.1 hu).1
          rw [Nat.zero_add, f.cell hcg2 hS]
          exact HCE.out (k * 7 + j) u (by rw [List.getElem?_append_left (by rw [jsrs_len]; omega), jsrs_at hk hj7]; exact hu)
        exact ⟨Nat.lt_of_lt_of_le hcg2 f.size, hc 0 _ rfl, hc 1 _ rfl, hc 2 _ rfl, hc 3 _ rfl, hc 4 _ rfl, hc 5 _ rfl, hc 6 _ rfl⟩
      have hR : ∀ (w' : World) (S : Nat → Prop) (f : Fr S w2 w') (hS : ¬ S cg), InsAt w' cg 0 n 16 0 0 0 0 0 0 := fun w' S f hS => by
        have hc : ∀ j u, retC[j]? = some u → w'.cell? ⟨cg, 0 + n * 7 + j, none⟩ = some u := fun j u hu => by
          have hj7 : j < 7 := (List.getElem?_eq_some_iff.1 hu).1
          rw [Nat.zero_add, f.cell hcg2 hS]
          exact HCE.out (n * 7 + j) u (by rw [List.getElem?_append_right (by rw [jsrs_len]; omega), jsrs_len, show n * 7 + j - n * 7 = j by omega]; exact hu)
        exact ⟨Nat.lt_of_lt_of_le hcg2 f.size, hc 0 _ rfl, hc 1 _ rfl, hc 2 _ rfl, hc 3 _ rfl, hc 4 _ rfl, hc 5 _ rfl, hc 6 _ rfl⟩
      have HJ := Lib.hid hJ
      have HR := Lib.hid hR
      clear hJ hR
      go_wp2_with fail
      obtain ⟨W4, hW4⟩ : ∃ W4, w2.alloc (.cells frC7 35) = W4 := ⟨_, rfl⟩
      have hf4 : FmAt W4 w2.heap.size 0 (.slice none 0 0) ⟨((0 : Nat) : Int), rs77, bks 0⟩ := by rw [← hW4]; exact fm_block7 (block_alloc_new w2 (.cells frC7 35))
      have hn4 : New w2 W4 := by rw [← hW4]; exact (Fr.refl _ _).alloc _
      unfold frC7 at hW4
      rw [hW4]
      obtain ⟨fb, hfb⟩ : ∃ fb, w2.heap.size = fb := ⟨_, rfl⟩
      have hwf : w.heap.size ≤ fb := by have := N2.out.size; omega
      have hcf : cg < fb := by omega
      rw [hfb] at hf4 ⊢
      have HF4 := Lib.hid hf4
      have FR4 := Lib.hid (hn4.mono (T := (· = fb)) (fun _ _ h => h.elim))
      clear hW4 hf4 hn4 hfb
      go_loopw [7] (fun i wr => ∃ k v, k ≤ n ∧ k ≤ 8 ∧ i = .int .i64 ((k : Nat) : Int) ∧ FmAt wr fb 0 v ⟨(k : Int), rs77, bks k⟩ ∧ Fr (· = fb) w2 wr) (fun i _ => n - (intOf i).toNat)
      case atStart => exact ⟨0, _, by omega, by omega, rfl, HF4.out, FR4.out⟩
      case round =>
        clear HF4 FR4
        obtain ⟨k, v, hk, hk8, rfl, hf, hfr⟩ := hrel
        have HF := Lib.hid hf
        have FR := Lib.hid hfr
        clear hf hfr
        by_cases hlt : k < n
        · have hst := step_jump (fb := fb) (o := 0) (v := v) (cv := .nilIface) (F := ⟨(k : Int), rs77, bks k⟩) (cg := cg) (co := 0) (n := n + 1) (cap := cap2) (k := k) (op := 15) (A := 0) (B := 0) (C := 0) (V := k + 1) (M := 0) (W := 0) (w := wr) HF.out (HJ.out wr _ FR.out (by omega) k hlt) (by omega) (by omega) (by omega) rfl (good_jsr (by omega)) (by omega) (by omega) (by omega)
          have hbl := bks_len k
          have q2 : (k : Int) < (n : Int) := by omega
          by_cases h8 : k = 8
          · subst h8
            rw [jump_full 8 (by omega)] at hst
            have HST := Lib.hid hst
            clear hst
            go_wp2_with fail
            refine HST.out.mono ?_
            rintro e w5 ⟨v', rfl, hf, h34, hov⟩
            have y0 := hf.fr.pc
            have y33 := hf.fr.back
            obtain ⟨ao3, cap3, rfl, _⟩ := owned_form hf.own
            rw [hbl] at y33
            have FR5 := Lib.hid (FR.out.trans h34.fr)
            clear hf h34 hov
            go_wp2_with (go_at_call 12; refine (awake_any _).mono ?_; rintro e w6 ⟨rfl, hn6⟩)
            go_ret
            exact ⟨rfl, (N2.out.then FR5.out (fun i hi e => by omega)).trans hn6⟩
          · rw [jump_bk k (by omega)] at hst
            have HST := Lib.hid hst
            clear hst
            have t8 : ¬ (8 : Int) ≤ (k : Int) := by omega
            have hbl2 := bks_len (k + 1)
            have tw2 : IntKind.i64.wrap ((k : Int) + 1) = (k : Int) + 1 := IntWalk.i64_in _ (by omega)
            go_wp2_with fail
            refine HST.out.mono ?_
            rintro e w5 ⟨v', rfl, hf, h34, hov⟩
            have y0 := hf.fr.pc
            have y33 := hf.fr.back
            obtain ⟨ao3, cap3, rfl, _⟩ := owned_form hf.own
            rw [hbl2] at y33
            have FR5 := Lib.hid (FR.out.trans h34.fr)
            have HF5 := Lib.hid hf
            clear hf h34 hov
            go_wp2_with fail
            go_roundw
            case rel => exact ⟨k + 1, _, by omega, by omega, by go_num, HF5.out, FR5.out⟩
            case measure => simp [intOf]; omega
        · obtain rfl : n = k := by omega
          go_wp2_with fail
          go_loopw [10] (fun i wx => ∃ k v p, k ≤ n ∧ i = .int .i64 ((k : Nat) : Int) ∧ FmAt wx fb 0 v ⟨p, rs77, bks k⟩ ∧ Fr (· = fb) w2 wx) (fun i _ => (intOf i).toNat)
          case atStart => exact ⟨n, _, _, by omega, rfl, HF.out, FR.out⟩
          case round =>
            clear HF FR
            obtain ⟨k, v, p, hk, rfl, hf, hfr⟩ := hrel
            have y0 := hf.fr.pc
            have yz := hf.fr.free
            have hs5 := hf.setPc (n : Int)
            have f5 := hfr.trans (Fr34.set (fb := fb) (o := 0) (w := wr) (i := 0) (.int .i64 (n : Int)) (by omega) (by omega)).fr
            have HS5 := Lib.hid hs5
            have FR5 := Lib.hid f5
            clear hf hfr hs5 f5
            cases k with
            | succ k =>
              have hst := fun (w' : World) (h : FmAt w' fb 0 v ⟨(n : Int), rs77, bks (k + 1)⟩) (f : Fr (· = fb) w2 w') => step_jump (fb := fb) (o := 0) (v := v) (cv := .nilIface) (F := ⟨(n : Int), rs77, bks (k + 1)⟩) (cg := cg) (co := 0) (n := n + 1) (cap := cap2) (k := n) (op := 16) (A := 0) (B := 0) (C := 0) (V := 0) (M := 0) (W := 0) (w := w') h (HR.out w' _ f (by omega)) (by omega) (by omega) (by omega) rfl (good_ret _) (by omega) (by omega) (by omega)
              rw [jump_back k] at hst
              have HST := Lib.hid hst
              have hbl := bks_len k
              have tw : IntKind.i64.wrap ((k : Int) + 1 - 1) = (k : Int) := by rw [show (k : Int) + 1 - 1 = k by omega]; exact IntWalk.i64_in _ (by omega)
              have tw3 : IntKind.i64.wrap (k : Int) = (k : Int) := IntWalk.i64_in _ (by omega)
              have e1 : ((k + 1 : Nat) : Int) = (k : Int) + 1 := by omega
              have q1 : (0 : Int) < (k : Int) + 1 := by omega
              clear hst
              go_wp2_with fail
              refine (HST.out _ HS5.out FR5.out).mono ?_
              rintro e w5 ⟨v', rfl, hf, h34, hov⟩
              have y0' := hf.fr.pc
              have y33 := hf.fr.back
              obtain ⟨ao3, cap3, rfl, _⟩ := owned_form hf.own
              rw [hbl] at y33
              have FR6 := Lib.hid (FR5.out.trans h34.fr)
              have HF6 := Lib.hid hf
              clear hf h34 hov y0 yz
              go_wp2_with fail
              go_roundw
              case rel => exact ⟨k, _, _, by omega, by go_num, HF6.out, FR6.out⟩
              case measure => simp [intOf]
            | zero =>
              have hst := fun (w' : World) (h : FmAt w' fb 0 v ⟨(n : Int), rs77, bks 0⟩) (f : Fr (· = fb) w2 w') => step_jump (fb := fb) (o := 0) (v := v) (cv := .nilIface) (F := ⟨(n : Int), rs77, bks 0⟩) (cg := cg) (co := 0) (n := n + 1) (cap := cap2) (k := n) (op := 16) (A := 0) (B := 0) (C := 0) (V := 0) (M := 0) (W := 0) (w := w') h (HR.out w' _ f (by omega)) (by omega) (by omega) (by omega) rfl (good_ret _) (by omega) (by omega) (by omega)
              rw [jump_home] at hst
              have HST := Lib.hid hst
              clear hst
              rw [show ((0 : Nat) : Int) = 0 from rfl]
              go_wp2_with fail
              refine (HST.out _ HS5.out FR5.out).mono ?_
              rintro e w5 ⟨v', rfl, hf, h34, hov⟩
              have y0' := hf.fr.pc
              have y6 : w5.cell? ⟨fb, 6, none⟩ = some (.int .u64 77) := hf.fr.regD (j := 5) (by omega)
              have FR6 := Lib.hid (FR5.out.trans h34.fr)
              clear hf h34 hov y0 yz
              go_wp2_with (go_at_call 12; refine (awake_any _).mono ?_; rintro e w6 ⟨rfl, hn6⟩)
              go_ret
              exact ⟨rfl, (N2.out.then FR6.out (fun i hi e => by omega)).trans hn6⟩

end Go.Proofs.Ytngpcalgjaglmaa
