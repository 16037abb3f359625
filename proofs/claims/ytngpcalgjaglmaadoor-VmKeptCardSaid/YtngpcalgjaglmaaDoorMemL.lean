/- The document's memory: its answers. -/
import Derived.Test.YtngpcalgjaglmaaDoorMemK
import Derived.Test.YtngpcalgjaglmaaDoorMemD
import Derived.RegionTactic
namespace Go.Proofs.YtngpcalgjaglmaaDoor
open Go.RowKit

set_option maxRecDepth 100000 in
set_option maxHeartbeats 400000 in
theorem rcut_any (W v : Nat) (w : World) (hv : v < 18446744073709551616) (hW : W = 32 ∨ W = 64) :
    Calls Tryd.prog 45 #[.int .i64 W, .int .u64 v] w fun e w' => e = .returned (.int .u64 (cutN W v : Nat)) ∧ w = w' := by
  rcases hW with rfl | rfl
  · rw [show ((32 : Nat) : Int) = 32 from rfl]
    go_enter Tryd.func45, Tryd.ntmps45
    go_wp2
    go_ret
    exact ⟨ret_int (by show _ = ((v % 4294967296 : Nat) : Int); omega), rfl⟩
  · rw [show ((64 : Nat) : Int) = 64 from rfl]
    go_enter Tryd.func45, Tryd.ntmps45
    go_wp2
    go_ret
    exact ⟨rfl, rfl⟩

set_option maxRecDepth 100000 in
set_option maxHeartbeats 400000 in
theorem rsum_any (W a b : Nat) (w : World) (ha : a < 18446744073709551616) (hb : b < 18446744073709551616) (hW : W = 32 ∨ W = 64) :
    Calls Tryd.prog 46 #[.int .i64 W, .int .u64 a, .int .u64 b] w fun e w' => e = .returned (.int .u64 (sumN W a b : Nat)) ∧ w = w' := by
  have HW := Lib.hid hW
  have h1 := cutN_le W a ha
  have h2 := cutN_le W b hb
  clear hW
  go_enter Tryd.func46, Tryd.ntmps46
  go_wp2_with fail
  refine (rcut_any W a _ ha HW.out).mono ?_
  rintro e w' ⟨rfl, rfl⟩
  go_wp2_with fail
  refine (rcut_any W b _ hb HW.out).mono ?_
  rintro e w' ⟨rfl, rfl⟩
  generalize hx : cutN W a = x at h1 ⊢
  generalize hy : cutN W b = y at h2 ⊢
  have HX := Lib.hid hx
  have HY := Lib.hid hy
  clear hx hy
  go_wp2_with fail
  rw [show IntKind.u64.wrap ((x : Int) + (y : Int)) = (((x + y) % 18446744073709551616 : Nat) : Int) from wrapU (x + y)]
  refine (rcut_any W _ _ (Nat.mod_lt _ (by omega)) HW.out).mono ?_
  rintro e w' ⟨rfl, rfl⟩
  go_wp2
  go_ret
  exact ⟨ret_int (by rw [← HX.out, ← HY.out]; rfl), rfl⟩

/-- Block b is the document's memory, wb its widths, hb what its cells hold; N accesses were done. -/
structure RefRep (w : World) (b wb hb : Nat) (cs ws : List Nat) (N : Nat) : Prop where
  ne : b ≠ wb ∧ b ≠ hb ∧ wb ≠ hb
  hd : Arr w b [.slice (some ⟨wb, 0, none⟩) ws.length ws.length, .slice (some ⟨hb, 0, none⟩) ws.length ws.length, .int .i64 N]
  widths : Arr w wb (ws.map fun x : Nat => .int .i64 x)
  holds : Arr w hb (cs.map fun x : Nat => .int .u64 x)
  len : cs.length = ws.length ∧ ws.length ≤ 10000000
  few : N < 1000000000
  fits : ∀ x ∈ cs, x < 18446744073709551616
  wide : ∀ x ∈ ws, x = 0 ∨ x = 32 ∨ x = 64

theorem RefRep.keep {w w' : World} {b wb hb : Nat} {cs ws : List Nat} {N : Nat} {S : Nat → Prop} (h : RefRep w b wb hb cs ws N) (f : Fr S w w') (h1 : ¬ S b) (h2 : ¬ S wb) (h3 : ¬ S hb) : RefRep w' b wb hb cs ws N :=
  ⟨h.ne, h.hd.keep f h1, h.widths.keep f h2, h.holds.keep f h3, h.len, h.few, h.fits, h.wide⟩

set_option maxRecDepth 100000 in
set_option maxHeartbeats 400000 in
theorem rin_any (b wb hb : Nat) (cs ws : List Nat) (N : Nat) (at_ n : Int) (w : World) (h : RefRep w b wb hb cs ws N) (hn : 1 ≤ n) (hn2 : n ≤ 9223372036854775807) (ha : at_ ≤ 9223372036854775807) :
    Calls Tryd.prog 42 #[.pointer (some ⟨b, 0, none⟩), .int .i64 at_, .int .i64 n] w fun e w' => e = .returned (.bool (decide (0 ≤ at_ ∧ n ≤ (ws.length : Int) - at_))) ∧ w = w' := by
  have c0 := h.hd.cell 0 _ rfl
  have hlen := h.len.2
  clear h
  rcases (show at_ < 0 ∨ (0 ≤ at_ ∧ (ws.length : Int) < n) ∨ (0 ≤ at_ ∧ n ≤ (ws.length : Int)) by omega) with h1 | ⟨h1, h2⟩ | ⟨h1, h2⟩
  all_goals
    go_enter Tryd.func42, Tryd.ntmps42
    go_wp2
    go_ret
    exact ⟨ret_bool (by rw [Bool.eq_iff_iff]; simp; omega), rfl⟩

theorem rset_rep {w : World} {b wb hb : Nat} {cs ws : List Nat} {N k W : Nat} (h : RefRep w b wb hb cs ws N) (hW : W = 0 ∨ W = 32 ∨ W = 64) :
    RefRep ((w.setCell ⟨wb, k, none⟩ (.int .i64 W)).setCell ⟨hb, k, none⟩ (.int .u64 0)) b wb hb (cs.set k 0) (ws.set k W) N := by
  obtain ⟨h1, h2, h3⟩ := h.ne
  refine ⟨h.ne, ?_, ?_, ?_, by simpa using h.len, h.few, ?_, ?_⟩
  · rw [List.length_set]
    exact (h.hd.setNe (fun e => h1 e.symm) _).setNe (fun e => h2 e.symm) _
  · have := (h.widths.set k (.int .i64 W)).setNe (fun e => h3 e.symm) (.int .u64 0) (o := k)
    rw [List.map_set]; exact this
  · have := (h.holds.setNe h3 (.int .i64 W) (o := k)).set k (.int .u64 ((0 : Nat) : Int))
    rw [List.map_set]; exact this
  · intro y hy
    rcases List.mem_or_eq_of_mem_set hy with hh | rfl
    · exact h.fits y hh
    · omega
  · intro y hy
    rcases List.mem_or_eq_of_mem_set hy with hh | rfl
    · exact h.wide y hh
    · exact hW
theorem rset_fr {w wr : World} {wb hb k : Nat} {x y : Value} (h : Fr (fun k => k = wb ∨ k = hb) w wr) :
    Fr (fun k => k = wb ∨ k = hb) w ((wr.setCell ⟨wb, k, none⟩ x).setCell ⟨hb, k, none⟩ y) :=
  Fr.setCell (S := fun k => k = wb ∨ k = hb) (Fr.setCell (S := fun k => k = wb ∨ k = hb) h (fun _ => .inl rfl) _) (fun _ => .inr rfl) _

theorem eq0_cast (x : Nat) : ((x : Int) == 0) = !(x != 0) := by
  rw [Bool.eq_iff_iff, beq_iff_eq]; simp

set_option maxRecDepth 100000 in
set_option maxHeartbeats 2000000 in
theorem rmap_ok (b wb hb : Nat) (cs ws : List Nat) (N : Nat) (at_ n W : Nat) (w : World) (h : RefRep w b wb hb cs ws N) (h1 : 1 ≤ n) (hl : at_ + n ≤ ws.length) (ha : ∀ i, at_ ≤ i → i < at_ + n → (ws.getD i 0 != 0) = false) (hW : W = 32 ∨ W = 64) :
    Calls Tryd.prog 22 #[.pointer (some ⟨b, 0, none⟩), .int .i64 at_, .int .i64 n, .int .i64 W] w fun e w' => e = .returned (.pointer none) ∧ RefRep w' b wb hb (fill cs at_ n 0) (fill ws at_ n W) N ∧ Fr (fun k => k = wb ∨ k = hb) w w' := by
  have hlen := h.len
  have c0 := h.hd.cell 0 _ rfl
  have hin := rin_any b wb hb cs ws N at_ n w h (by omega) (by omega) (by omega)
  rw [decide_eq_true (by omega : (0 : Int) ≤ (at_ : Int) ∧ (n : Int) ≤ (ws.length : Int) - at_)] at hin
  have H := Lib.hid h
  have HI := Lib.hid hin
  have HA := Lib.hid ha
  have HW := Lib.hid hW
  have hWb : ((W : Int) != 64) = false ∨ ((W : Int) != 64) = true ∧ ((W : Int) != 32) = false := by rcases hW with rfl | rfl <;> simp
  obtain ⟨HL1, HL2⟩ := hlen
  have HL1 := Lib.hid HL1
  clear h hin ha
  clear hW
  rcases hWb with hw1 | ⟨hw1, hw2⟩
  all_goals
    go_enter Tryd.func22, Tryd.ntmps22
    go_wp2_with (go_at_call 42; refine HI.out.mono ?_; rintro e w' ⟨rfl, rfl⟩)
    go_loop [9] (fun i => ∃ k : Nat, at_ ≤ k ∧ k ≤ at_ + n ∧ i = .int .i64 k) (fun i => at_ + n - (intOf i).toNat)
    case atStart => exact ⟨at_, by omega, by omega, rfl⟩
    case round =>
      obtain ⟨k, hk1, hk2, rfl⟩ := hrel
      by_cases hlt : k < at_ + n
      · have cx := at_map H.out.widths (getD_get (show k < ws.length by omega))
        have hb' : ((ws.getD k 0 : Int) != 0) = false := by rw [ne0_cast]; exact HA.out k hk1 hlt
        generalize ws.getD k 0 = x at cx hb'
        go_wp2
        go_round
        case rel => exact ⟨k + 1, by omega, by omega, by go_num⟩
        case measure => simp [intOf]; omega
      · go_wp2_with fail
        go_loopw [10] (fun i wr => ∃ k : Nat, at_ ≤ k ∧ k ≤ at_ + n ∧ i = .int .i64 k ∧ RefRep wr b wb hb (fill cs at_ (k - at_) 0) (fill ws at_ (k - at_) W) N ∧ Fr (fun k => k = wb ∨ k = hb) w wr) (fun i _ => at_ + n - (intOf i).toNat)
        case atStart => exact ⟨at_, by omega, by omega, rfl, by rw [Nat.sub_self, fill_zero, fill_zero]; exact H.out, Fr.refl _ _⟩
        case round =>
          clear c0 HI hlt
          obtain ⟨k, hk1, hk2, rfl, hr, hf⟩ := hrel
          have c0 := hr.hd.cell 0 _ rfl
          have c1 := hr.hd.cell 1 _ rfl
          have hfl := fill_len ws at_ (k - at_) W
          rw [hfl] at c0 c1
          have fc := hr.holds.free
          have fw := hr.widths.free
          have ne1 := hr.ne.1
          have ne2 := hr.ne.2.1
          have ne3 := hr.ne.2.2
          have HRR := Lib.hid hr
          have HF := Lib.hid hf
          clear hr hf hfl
          by_cases hlt : k < at_ + n
          · have hkc : (fill cs at_ (k - at_) 0)[k]? = some (cs.getD k 0) := by rw [fill_get _ _ _ _ _ (by have := HL1.out; omega), if_neg (by omega)]
            have hkw : (fill ws at_ (k - at_) W)[k]? = some (ws.getD k 0) := by rw [fill_get _ _ _ _ _ (by omega), if_neg (by omega)]
            have cc := at_map HRR.out.holds hkc
            have cw := at_map HRR.out.widths hkw
            generalize cs.getD k 0 = x0 at cc
            generalize ws.getD k 0 = x1 at cw
            have e1 := fill_succ cs at_ (k - at_) 0
            have e2 := fill_succ ws at_ (k - at_) W
            rw [show at_ + (k - at_) = k from by omega, show k - at_ + 1 = k + 1 - at_ from by omega] at e1 e2
            have E1 := Lib.hid e1
            have E2 := Lib.hid e2
            clear hkc hkw e1 e2
            go_wp2_with fail
            go_region
            go_wp2
            go_roundw
            case rel => exact ⟨k + 1, by omega, by omega, by go_num, by rw [← E1.out, ← E2.out]; exact (rset_rep HRR.out (.inr HW.out)).keep ((Fr.refl (fun _ => False) _).drew) id id id, (rset_fr HF.out).drew⟩
            case measure => simp [intOf]; omega
          · have hk : k - at_ = n := by omega
            have HK := Lib.hid hk
            clear hk c0 c1 fc fw
            go_wp2
            go_ret
            exact ⟨rfl, by rw [← HK.out]; exact HRR.out, HF.out⟩

theorem no_ref (n k : Int) (w : World) :
    Calls Tryd.prog 16 #[.string memL, .int .i64 n, .int .i64 k] w fun e w' => ∃ f, e = .returned f ∧ SaysF w' memL f (some (n, k)) ∧ New w w' := no_any memL n k w

set_option maxRecDepth 100000 in
set_option maxHeartbeats 1000000 in
theorem rmap_row (b wb hb : Nat) (cs ws : List Nat) (N : Nat) (at_ n W : Int) (p q : Int) (w : World) (h : RefRep w b wb hb cs ws N) (h1 : 1 ≤ n) (hn : n ≤ 9223372036854775807) (ha : at_ ≤ 9223372036854775807) (hW : W = 32 ∨ W = 64) (he : rowErr ws at_ n false = some (p, q)) :
    Calls Tryd.prog 22 #[.pointer (some ⟨b, 0, none⟩), .int .i64 at_, .int .i64 n, .int .i64 W] w fun e w' => ∃ f, e = .returned f ∧ SaysF w' memL f (some (p, q)) ∧ New w w' := by
  have hin := rin_any b wb hb cs ws N at_ n w h h1 hn ha
  have c0 := h.hd.cell 0 _ rfl
  have hlen := h.len.2
  rcases rowErr_some he h1 with ⟨hl, rfl, rfl⟩ | ⟨a, m, j, rfl, rfl, hm, hl, hj1, hj2, rfl, rfl, hb1, hb2⟩
  · rw [decide_eq_false (by omega)] at hin
    have HI := Lib.hid hin
    clear hin h hl he
    rcases hW with rfl | rfl
    all_goals
      go_enter Tryd.func22, Tryd.ntmps22
      go_wp2_with (first
        | (go_at_call 42; refine HI.out.mono ?_; rintro e w' ⟨rfl, rfl⟩)
        | (go_at_call 16; refine (no_ref _ _ _).mono ?_; rintro e w1 ⟨f, rfl, hf, hn⟩))
      go_ret
      exact ⟨f, rfl, hf, hn⟩
  · rw [decide_eq_true (by omega : (0 : Int) ≤ (a : Int) ∧ (m : Int) ≤ (ws.length : Int) - a)] at hin
    have HI := Lib.hid hin
    have H := Lib.hid h
    have HA := Lib.hid hb1
    have HJ := Lib.hid hb2
    clear hin h hb1 hb2 he
    rcases hW with rfl | rfl
    all_goals
      go_enter Tryd.func22, Tryd.ntmps22
      go_wp2_with (go_at_call 42; refine HI.out.mono ?_; rintro e w' ⟨rfl, rfl⟩)
      go_loop [9] (fun i => ∃ k : Nat, a ≤ k ∧ k ≤ j ∧ i = .int .i64 k) (fun i => a + m - (intOf i).toNat)
      case atStart => exact ⟨a, by omega, by omega, rfl⟩
      case round =>
        obtain ⟨k, hk1, hk2, rfl⟩ := hrel
        have cx := at_map H.out.widths (getD_get (show k < ws.length by omega))
        by_cases hlt : k < j
        · have hb' : ((ws.getD k 0 : Int) != 0) = false := by rw [ne0_cast]; rw [HA.out k hk1 hlt]
          try simp only [Bool.not_true, Bool.not_false] at hb'
          generalize ws.getD k 0 = x at cx hb'
          go_wp2
          go_round
          case rel => exact ⟨k + 1, by omega, by omega, by go_num⟩
          case measure => simp [intOf]; omega
        · obtain rfl : k = j := by omega
          have hb' : ((ws.getD k 0 : Int) != 0) = !false := by rw [ne0_cast]; rw [HJ.out]
          try simp only [Bool.not_true, Bool.not_false] at hb'
          generalize ws.getD k 0 = x at cx hb'
          clear HJ HA
          go_wp2_with (go_at_call 16; refine (no_ref _ _ _).mono ?_; rintro e w1 ⟨f, rfl, hf, hn⟩)
          go_ret
          exact ⟨f, rfl, hf, hn⟩

set_option maxRecDepth 100000 in
set_option maxHeartbeats 1000000 in
theorem rmap_err (b wb hb : Nat) (cs ws : List Nat) (N : Nat) (at_ n W p k : Int) (w : World) (h : RefRep w b wb hb cs ws N) (hn : n ≤ 9223372036854775807) (ha : at_ ≤ 9223372036854775807) (he : mapErr ws at_ n W = some (p, k)) :
    Calls Tryd.prog 22 #[.pointer (some ⟨b, 0, none⟩), .int .i64 at_, .int .i64 n, .int .i64 W] w fun e w' => ∃ f, e = .returned f ∧ SaysF w' memL f (some (p, k)) ∧ New w w' := by
  unfold mapErr at he
  split at he
  · rename_i h0
    have h2 := Option.some.inj he
    simp only [Prod.mk.injEq] at h2
    obtain ⟨rfl, rfl⟩ := h2
    clear h he
    rcases (show n < 1 ∨ (1 ≤ n ∧ W ≠ 32 ∧ W ≠ 64) by omega) with h1 | ⟨h1, h2, h3⟩
    · go_enter Tryd.func22, Tryd.ntmps22
      go_wp2_with (go_at_call 16; refine (no_ref _ _ _).mono ?_; rintro e w1 ⟨f, rfl, hf, hn⟩)
      go_ret
      exact ⟨f, rfl, hf, hn⟩
    · have t1 : (W != 32) = true := by rw [bne_iff_ne]; exact h2
      have t2 : (W != 64) = true := by rw [bne_iff_ne]; exact h3
      clear h2 h3 h0
      go_enter Tryd.func22, Tryd.ntmps22
      go_wp2_with (go_at_call 16; refine (no_ref _ _ _).mono ?_; rintro e w1 ⟨f, rfl, hf, hn⟩)
      go_ret
      exact ⟨f, rfl, hf, hn⟩
  · rename_i h0
    exact rmap_row b wb hb cs ws N at_ n W p k w h (by omega) hn ha (by omega) he

theorem rmap_any (b wb hb : Nat) (cs ws : List Nat) (N : Nat) (at_ n W : Int) (w : World) (h : RefRep w b wb hb cs ws N) (hn : n ≤ 9223372036854775807) (ha : at_ ≤ 9223372036854775807) :
    Calls Tryd.prog 22 #[.pointer (some ⟨b, 0, none⟩), .int .i64 at_, .int .i64 n, .int .i64 W] w fun e w' => ∃ f, e = .returned f ∧ SaysF w' memL f (mapErr ws at_ n W) ∧
      (if mapErr ws at_ n W = none then RefRep w' b wb hb (fill cs at_.toNat n.toNat 0) (fill ws at_.toNat n.toNat W.toNat) N else RefRep w' b wb hb cs ws N) ∧ Fr (fun k => mapErr ws at_ n W = none ∧ (k = wb ∨ k = hb)) w w' := by
  cases he : mapErr ws at_ n W with
  | some x =>
    obtain ⟨p, k⟩ := x
    refine (rmap_err b wb hb cs ws N at_ n W p k w h hn ha he).mono ?_
    rintro e w1 ⟨f, rfl, hf, hn⟩
    refine ⟨_, rfl, hf, ?_, hn.mono (fun _ _ h => h.elim)⟩
    rw [if_neg (by simp)]
    exact h.keep hn id id id
  | none =>
    unfold mapErr at he
    split at he
    · cases he
    · rename_i h0
      obtain ⟨a, m, rfl, rfl, h1, hl, hz⟩ := rowErr_none he (by omega)
      obtain ⟨V, rfl, hV⟩ : ∃ V : Nat, W = V ∧ (V = 32 ∨ V = 64) := ⟨W.toNat, by omega, by omega⟩
      refine (rmap_ok b wb hb cs ws N a m V w h h1 hl hz hV).mono ?_
      rintro e w1 ⟨rfl, hr, hf⟩
      refine ⟨_, rfl, rfl, ?_, hf.mono (fun _ _ h => ⟨rfl, h⟩)⟩
      rw [if_pos rfl]
      exact hr
set_option maxRecDepth 100000 in
set_option maxHeartbeats 400000 in
theorem rwidth_any (b wb hb : Nat) (cs ws : List Nat) (N p : Nat) (w : World) (h : RefRep w b wb hb cs ws N) :
    Calls Tryd.prog 44 #[.pointer (some ⟨b, 0, none⟩), .int .u64 p] w fun e w' => e = .returned (.int .i64 (ws.getD p 0 : Nat)) ∧ w = w' := by
  have c0 := h.hd.cell 0 _ rfl
  have hlen := h.len.2
  by_cases hl : p < ws.length
  · have cx := at_map h.widths (getD_get hl)
    generalize ws.getD p 0 = x at cx
    clear h
    go_enter Tryd.func44, Tryd.ntmps44
    go_wp2
    go_ret
    exact ⟨rfl, rfl⟩
  · rw [List.getD_eq_getElem?_getD, List.getElem?_eq_none (by omega)]
    clear h
    go_enter Tryd.func44, Tryd.ntmps44
    go_wp2
    go_ret
    exact ⟨rfl, rfl⟩

/-- How many cells are there. -/
def cnt (ws : List Nat) : Nat := ws.countP (· != 0)
end Go.Proofs.YtngpcalgjaglmaaDoor
