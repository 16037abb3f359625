/- Telling the handles by their places to a function value; how many there are. -/
import Derived.Test.YtincfbgegoefgaaDoorObjC
namespace Go.Proofs.YtincfbgegoefgaaDoor
open Go.RowKit Go.Shelf

theorem rows_add {w : World} {rb : Nat} {rs : List Row} (h : Arr w rb (rs.flatMap Row.cells)) (o : Obj) : ∀ j u, (rs.flatMap Row.cells)[j]? = some u → (w.alloc o).cell? ((⟨rb, 0, none⟩ : Addr).add j) = some u := by
  intro j u hj
  have := (h.alloc o).cell j u hj
  unfold Addr.add; split <;> simp_all
theorem rows_one (rs : List Row) : ∀ u ∈ rs.flatMap Row.cells, u.oneCell' = true := by
  intro u hu
  obtain ⟨r, _, hr⟩ := List.mem_flatMap.1 hu
  simp [Row.cells] at hr
  rcases hr with rfl | rfl | rfl | rfl <;> rfl

set_option maxRecDepth 100000 in
set_option maxHeartbeats 1000000 in
theorem all1_fn (x y : Value) (Bn b rb : Nat) (rs : List Row) (J : Nat → List (Nat × Nat) → World → Prop) (Jx : List (Nat × Nat) → World → Prop)
    (hY : ∀ G pre z W, J G pre W → G < W.heap.size → pre.length < rs.length → Calls Tryd.prog 31 #[.int .u64 (z.1 : Nat), .int .u64 (z.2 : Nat), x, y] W fun e W' =>
      (e = .returned (.bool true) ∧ J G (pre ++ [z]) W' ∧ W'.heap[G]? = W.heap[G]?) ∨ (e = .returned (.bool false) ∧ Jx (pre ++ [z]) W'))
    (W : World) (hA : ∀ G s W W', J G s W → New W W' → J G s W') (hBn : W.cell? ⟨Bn, 0, none⟩ = some (.pointer (some ⟨b, 0, none⟩))) (hL : ObjRep W b rb rs) (h0 : ∀ G, W.heap.size ≤ G → J G [] W) :
    Calls Tryd.prog 37 #[.func (.func 31) #[] #[x, y], .pointer (some ⟨Bn, 0, none⟩)] W fun e W' => e = .returned (.tuple #[]) ∧
      ((∃ G, J G (told rs) W') ∨ (∃ pre, pre <+: told rs ∧ Jx pre W')) := by
  have hc := hL.hd.cell 0 _ rfl
  have hn := hL.len
  have l1 := lt_of_cell hBn
  have l2 := hL.hd.lt
  have l3 := hL.rows.lt
  have hrows := rows_add hL.rows (.cells #[] 79)
  have hlen : (rs.flatMap Row.cells).length = rs.length * 4 := len_flatMap Row.cells 4 Row.len rs
  have hone := rows_one rs
  obtain ⟨i0, hi, hz0, hz1, hz2⟩ := info_parts rowInfo
  have hown := World.ownsRow_lit (base := W.heap.size) (e := 79) (size := 4) W #[] 0 (Nat.le_refl _) (Nat.zero_le _) rfl
  have HL := Lib.hid hlen
  have HY := Lib.hid hY
  have HR := Lib.hid hrows
  clear hlen hY hrows
  go_enter Tryd.func37, Tryd.ntmps37
  go_wp2_with (at_builtin; refine wpList_append_own _ rfl (.tmp 5) (.tmp 9) 65 rfl W.heap.size 79 i0 _ 4 32 Tryd.underlying65 hi hz0 hz1 hz2 rfl (by decide) _ _ _ rfl hown ⟨rb, 0, none⟩ rs.length rs.length (rs.flatMap Row.cells) rfl HL.out HR.out hone (by unfold maxLen; omega) (by omega) (by simp) ?_; intro v' w1 hown' hgrow hnil; obtain ⟨g, cap, cur, rfl, hg1, hg2, hg3⟩ := owned_slice hown' (fun e => by have := (hnil.1 e).1; cases this); clear hnil hown')
  have hgr : New W w1 := ⟨hgrow.os, hgrow.tape, hgrow.output, Nat.le_trans (by simp) hgrow.size, fun k hk _ => by
    rw [hgrow.block k (by simp; omega) (by intro e; have e' : k = W.heap.size := by injection e
                                           omega)]; exact Below.heap_alloc _ _ _ hk⟩
  have hJ1 := hA g [] W w1 (h0 g hg1) hgr
  clear hgrow hown
  rw [List.nil_append] at hg3
  go_loopw [12] (fun i wr => ∃ q : Nat, q ≤ rs.length ∧ i = .int .i64 q ∧ wr.heap[g]? = some (.cells cur 79 (0, 0)) ∧ J g (told (rs.take q)) wr) (fun i _ => rs.length - (intOf i).toNat)
  case atStart => exact ⟨0, by omega, rfl, hg2, hJ1⟩
  case round =>
  obtain ⟨q, hq, rfl, hgq, hJq⟩ := hrel
  by_cases hlt : q < rs.length
  · obtain ⟨r, hr⟩ : ∃ r, rs[q]? = some r := ⟨rs[q]'(by omega), by simp⟩
    have c0 : wr.cell? ⟨g, q * 4, none⟩ = some (.int .u64 r.times) := by
      rw [cell_of_block hgq]; exact hg3 _ _ (by have := get_flatMap Row.cells 4 Row.len rs q 0 (by omega); rw [Nat.add_zero] at this; rw [this, hr]; rfl)
    have c1 : wr.cell? ⟨g, q * 4 + 1, none⟩ = some (.int .u64 r.handle) := by
      rw [cell_of_block hgq]; exact hg3 _ _ (by have := get_flatMap Row.cells 4 Row.len rs q 1 (by omega); rw [this, hr]; rfl)
    have c2 : wr.cell? ⟨g, q * 4 + 2, none⟩ = some (.int .i64 r.kind) := by
      rw [cell_of_block hgq]; exact hg3 _ _ (by have := get_flatMap Row.cells 4 Row.len rs q 2 (by omega); rw [this, hr]; rfl)
    have c3 : wr.cell? ⟨g, q * 4 + 3, none⟩ = some (.int .u64 r.addr) := by
      rw [cell_of_block hgq]; exact hg3 _ _ (by have := get_flatMap Row.cells 4 Row.len rs q 3 (by omega); rw [this, hr]; rfl)
    have hs := told_snoc hr
    have HS := Lib.hid hs
    clear hs hr
    have hJ' := hA g _ _ (wr.alloc (.cells #[.int .u64 r.times, .int .u64 r.handle, .int .i64 r.kind, .int .u64 r.addr] 79)) hJq ((Fr.refl _ _).alloc _)
    have hg' : (wr.alloc (.cells #[.int .u64 r.times, .int .u64 r.handle, .int .i64 r.kind, .int .u64 r.addr] 79)).heap[g]? = some (.cells cur 79 (0, 0)) := by
      rw [block_alloc (lt_of_block hgq)]; exact hgq
    have HG := Lib.hid hg'
    have HJ := Lib.hid hJ'
    by_cases h0 : r.handle = 0
    · have hb : ((r.handle : Int) != 0) = false := by simp [h0]
      have H0 := Lib.hid h0
      clear h0 hg' hJ'
      go_wp2
      go_roundw
      case rel => exact ⟨q + 1, by omega, by go_num, HG.out, by rw [HS.out, if_pos H0.out, List.append_nil]; exact HJ.out⟩
      case measure => simp [intOf]; omega
    · have hb : ((r.handle : Int) != 0) = true := by simp [h0]
      have hcall := HY.out g _ (r.handle, r.addr) _ hJ' (lt_of_block hg') (by
        have := told_le (rs.take q); rw [List.length_take] at this; omega)
      have H0 := Lib.hid h0
      have HC := Lib.hid hcall
      clear h0 hg' hJ' hcall
      go_wp2_with (go_at_call 31; refine HC.out.mono ?_; rintro e W3 (⟨rfl, hJ3, hk3⟩ | ⟨rfl, hJx3⟩))
      · have HG3 : W3.heap[g]? = some (.cells cur 79 (0, 0)) := by
          rw [hk3]; exact HG.out
        go_roundw
        case rel => exact ⟨q + 1, by omega, by go_num, HG3, by rw [HS.out, if_neg H0.out]; exact hJ3⟩
        case measure => simp [intOf]; omega
      · refine bodyPost_ret (results_none rfl _ _ _) rfl ?_
        exact ⟨rfl, .inr ⟨_, (by have := HS.out; rw [if_neg H0.out] at this; rw [← this]; exact told_take _ _), hJx3⟩⟩
  · go_wp2
    go_end0
    exact ⟨rfl, .inl ⟨g, by rw [List.take_of_length_le (by omega)] at hJq; exact hJq⟩⟩

end Go.Proofs.YtincfbgegoefgaaDoor
