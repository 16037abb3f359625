/- Cells are mapped: the look at a row, and the mapping of one that is free. -/
import Derived.Test.YtngpcalgjaglmaaDoorMemC
namespace Go.Proofs.YtngpcalgjaglmaaDoor
open Go.RowKit

set_option maxRecDepth 100000 in
set_option maxHeartbeats 1000000 in
theorem row_ok (b cb wb : Nat) (cs ws : List Nat) (th ct at_ n : Nat) (t : Bool) (w : World) (h : MemRep w b cb wb cs ws th ct) (hl : at_ + n ≤ cs.length) (ha : ∀ i x, at_ ≤ i → i < at_ + n → ws[i]? = some x → (x != 0) = t) :
    Calls Tryd.prog 41 #[.pointer (some ⟨b, 0, none⟩), .int .i64 at_, .int .i64 n, .bool t] w fun e w' => e = .returned .nilIface ∧ w = w' := by
  have c0 := h.hd.cell 0 _ rfl
  have c1 := h.hd.cell 1 _ rfl
  have hlen := h.len.2
  have H := Lib.hid h
  have HA := Lib.hid ha
  clear h ha
  go_enter Tryd.func41, Tryd.ntmps41
  go_wp2_with fail
  go_loop [9] (fun i => ∃ k : Nat, at_ ≤ k ∧ k ≤ at_ + n ∧ i = .int .i64 k) (fun i => at_ + n - (intOf i).toNat)
  case atStart => exact ⟨at_, by omega, by omega, rfl⟩
  case round =>
    obtain ⟨k, hk1, hk2, rfl⟩ := hrel
    by_cases hlt : k < at_ + n
    · obtain ⟨x, hx⟩ : ∃ x, ws[k]? = some x := ⟨ws[k]'(by have := H.out.len.1; omega), by simp⟩
      have cx := at_map H.out.widths hx
      have hb := HA.out k x hk1 hlt hx
      have hb' : ((x : Int) != 0) = t := by rw [← hb]; cases h0 : (x != 0) <;> simp_all
      clear hb hx
      cases t
      all_goals
        go_wp2
        go_round
        case rel => exact ⟨k + 1, by omega, by omega, by go_num⟩
        case measure => simp [intOf]; omega
    · go_wp2
      go_ret
      exact ⟨rfl, rfl⟩

/-- n places from at_ on are x. -/
def fill (xs : List Nat) (at_ n x : Nat) : List Nat := (List.range xs.length).map fun i => if at_ ≤ i ∧ i < at_ + n then x else xs.getD i 0
theorem fill_len (xs : List Nat) (at_ n x : Nat) : (fill xs at_ n x).length = xs.length := by simp [fill]
theorem fill_zero (xs : List Nat) (at_ x : Nat) : fill xs at_ 0 x = xs := by
  unfold fill
  apply List.ext_getElem?
  intro i
  by_cases h : i < xs.length
  · simp [h]; omega
  · simp [h]
theorem fill_get (xs : List Nat) (at_ n x i : Nat) (h : i < xs.length) : (fill xs at_ n x)[i]? = some (if at_ ≤ i ∧ i < at_ + n then x else xs.getD i 0) := by
  simp [fill, h]
theorem fill_succ (xs : List Nat) (at_ n x : Nat) : (fill xs at_ n x).set (at_ + n) x = fill xs at_ (n + 1) x := by
  apply List.ext_getElem?
  intro i
  by_cases h : i < xs.length
  · by_cases e : at_ + n = i
    · subst e
      rw [List.getElem?_set_self (by rw [fill_len]; exact h), fill_get _ _ _ _ _ h, if_pos (by omega)]
    · rw [List.getElem?_set_ne e, fill_get _ _ _ _ _ h, fill_get _ _ _ _ _ h]
      by_cases h2 : at_ ≤ i ∧ i < at_ + n
      · rw [if_pos h2, if_pos (by omega)]
      · rw [if_neg h2, if_neg (by omega)]
  · rw [List.getElem?_eq_none (by rw [List.length_set, fill_len]; omega), List.getElem?_eq_none (by rw [fill_len]; omega)]

theorem map_rep {w : World} {b cb wb : Nat} {cs ws : List Nat} {th ct k W : Nat} (h : MemRep w b cb wb cs ws th ct) (hW : W = 0 ∨ W = 32 ∨ W = 64) :
    MemRep ((w.setCell ⟨wb, k, none⟩ (.int .u8 W)).setCell ⟨cb, k, none⟩ (.int .u64 0)) b cb wb (cs.set k 0) (ws.set k W) th ct := by
  obtain ⟨h1, h2, h3⟩ := h.ne
  refine ⟨h.ne, ?_, ?_, ?_, by simpa using h.len, ?_, ?_, h.few⟩
  · rw [List.length_set]
    exact (h.hd.setNe (fun e => h2 e.symm) _).setNe (fun e => h1 e.symm) _
  · have := (h.cells.setNe (fun e => h3 e.symm) (.int .u8 W) (o := k)).set k (.int .u64 ((0 : Nat) : Int))
    rw [List.map_set]; exact this
  · have := (h.widths.set k (.int .u8 W)).setNe h3 (.int .u64 0) (o := k)
    rw [List.map_set]; exact this
  · intro y hy
    rcases List.mem_or_eq_of_mem_set hy with hh | rfl
    · exact h.fits y hh
    · omega
  · intro y hy
    rcases List.mem_or_eq_of_mem_set hy with hh | rfl
    · exact h.wide y hh
    · exact hW
theorem map_fr {w wr : World} {b cb wb k : Nat} {x y : Value} (h : Fr (fun k => k = b ∨ k = cb ∨ k = wb) w wr) :
    Fr (fun k => k = b ∨ k = cb ∨ k = wb) w ((wr.setCell ⟨wb, k, none⟩ x).setCell ⟨cb, k, none⟩ y) :=
  Fr.setCell (S := fun k => k = b ∨ k = cb ∨ k = wb) (Fr.setCell (S := fun k => k = b ∨ k = cb ∨ k = wb) h (fun _ => .inr (.inr rfl)) _) (fun _ => .inr (.inl rfl)) _
theorem there_rep {w : World} {b cb wb : Nat} {cs ws : List Nat} {th ct th' : Nat} (h : MemRep w b cb wb cs ws th ct) (hc : th' ≤ 10000000) (x : Int) (hx : x = (th' : Int)) :
    MemRep (w.setCell ⟨b, 2, none⟩ (.int .i64 x)) b cb wb cs ws th' ct := by
  subst hx
  obtain ⟨h1, h2, h3⟩ := h.ne
  exact ⟨h.ne, h.hd.set 2 _, h.cells.setNe h1 _, h.widths.setNe h2 _, h.len, h.fits, h.wide, ⟨hc, h.few.2⟩⟩
theorem there_fr {w wr : World} {b cb wb : Nat} {x : Value} (h : Fr (fun k => k = b ∨ k = cb ∨ k = wb) w wr) : Fr (fun k => k = b ∨ k = cb ∨ k = wb) w (wr.setCell ⟨b, 2, none⟩ x) :=
  Fr.setCell (S := fun k => k = b ∨ k = cb ∨ k = wb) h (fun _ => .inl rfl) _

set_option maxRecDepth 100000 in
set_option maxHeartbeats 1000000 in
theorem map_ok (b cb wb : Nat) (cs ws : List Nat) (th ct at_ n W : Nat) (w : World) (h : MemRep w b cb wb cs ws th ct) (h1 : 1 ≤ n) (hl : at_ + n ≤ cs.length) (ha : ∀ i x, at_ ≤ i → i < at_ + n → ws[i]? = some x → x = 0) (hW : W = 32 ∨ W = 64) (hth : th + n ≤ 10000000) :
    Calls Tryd.prog 21 #[.pointer (some ⟨b, 0, none⟩), .int .i64 at_, .int .i64 n, .int .i64 W] w fun e w' => e = .returned .nilIface ∧ MemRep w' b cb wb (fill cs at_ n 0) (fill ws at_ n W) (th + n) ct ∧ Fr (fun k => k = b ∨ k = cb ∨ k = wb) w w' := by
  have hlen := h.len.2
  have hrow := row_ok b cb wb cs ws th ct at_ n false w h hl (fun i x h1 h2 h3 => by rw [ha i x h1 h2 h3]; rfl)
  have H := Lib.hid h
  have HR := Lib.hid hrow
  have HW := Lib.hid hW
  have hWb : ((W : Int) != 32) = false ∨ ((W : Int) != 32) = true ∧ ((W : Int) != 64) = false := by
    rcases hW with rfl | rfl <;> simp
  clear h hrow ha hW
  rcases hWb with hw1 | ⟨hw1, hw2⟩
  all_goals
    go_enter Tryd.func21, Tryd.ntmps21
    go_wp2_with (go_at_call 41; refine HR.out.mono ?_; rintro e w' ⟨rfl, rfl⟩)
    go_loopw [10] (fun i wr => ∃ k : Nat, at_ ≤ k ∧ k ≤ at_ + n ∧ i = .int .i64 k ∧ MemRep wr b cb wb (fill cs at_ (k - at_) 0) (fill ws at_ (k - at_) W) th ct ∧ Fr (fun k => k = b ∨ k = cb ∨ k = wb) w wr) (fun i _ => at_ + n - (intOf i).toNat)
    case atStart => exact ⟨at_, by omega, by omega, rfl, by rw [Nat.sub_self, fill_zero, fill_zero]; exact H.out, Fr.refl _ _⟩
    case round =>
      obtain ⟨k, hk1, hk2, rfl, hr, hf⟩ := hrel
      have c0 := hr.hd.cell 0 _ rfl
      have c1 := hr.hd.cell 1 _ rfl
      have c2 := hr.hd.cell 2 _ rfl
      have hfl := fill_len cs at_ (k - at_) 0
      rw [hfl] at c0 c1
      have fb := hr.hd.free
      have fc := hr.cells.free
      have fw := hr.widths.free
      have ne1 := hr.ne.1
      have ne2 := hr.ne.2.1
      have ne3 := hr.ne.2.2
      have HRR := Lib.hid hr
      have HF := Lib.hid hf
      clear hr hf hfl
      by_cases hlt : k < at_ + n
      · have hkc : (fill cs at_ (k - at_) 0)[k]? = some (cs.getD k 0) := by rw [fill_get _ _ _ _ _ (by omega), if_neg (by omega)]
        have hkw : (fill ws at_ (k - at_) W)[k]? = some (ws.getD k 0) := by rw [fill_get _ _ _ _ _ (by have := H.out.len.1; omega), if_neg (by omega)]
        have cc := at_map HRR.out.cells hkc
        have cw := at_map HRR.out.widths hkw
        generalize cs.getD k 0 = x0 at cc
        generalize ws.getD k 0 = x1 at cw
        have e1 := fill_succ cs at_ (k - at_) 0
        have e2 := fill_succ ws at_ (k - at_) W
        rw [show at_ + (k - at_) = k from by omega, show k - at_ + 1 = k + 1 - at_ from by omega] at e1 e2
        have E1 := Lib.hid e1
        have E2 := Lib.hid e2
        have hWle : W ≤ 64 := by have := HW.out; omega
        clear hkc hkw e1 e2 c2
        go_wp2
        go_roundw
        case rel => exact ⟨k + 1, by omega, by omega, by go_num, by rw [← E1.out, ← E2.out]; exact map_rep HRR.out (.inr HW.out), map_fr HF.out⟩
        case measure => simp [intOf]; omega
      · have hk : k - at_ = n := by omega
        have HK := Lib.hid hk
        clear hk c0 c1 fc fw
        go_wp2
        go_ret
        exact ⟨rfl, by rw [← HK.out]; exact there_rep HRR.out (by omega) _ (by have := HK.out; omega), there_fr HF.out⟩

end Go.Proofs.YtngpcalgjaglmaaDoor
