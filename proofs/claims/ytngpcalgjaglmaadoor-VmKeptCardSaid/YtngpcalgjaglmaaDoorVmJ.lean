/- The statements' example. -/
import Derived.Test.YtngpcalgjaglmaaDoorVmF
import Derived.Test.YtngpcalgjaglmaaDoorVmG
import Derived.Test.YtngpcalgjaglmaaDoorVmH
namespace Go.Proofs.YtngpcalgjaglmaaDoor
open Go.RowKit

theorem pad0 : padR [] 0 = [0, 0, 0, 0, 0, 0, 0, 0, 0, 0, 0, 0, 0, 0, 0, 0, 0, 0, 0, 0, 0, 0, 0, 0, 0, 0, 0, 0, 0, 0, 0, 0] := rfl
def awRs : List Nat := [0, 3, 9, 18446744073709551615, 0, 0, 0, 0, 0, 0, 0, 0, 0, 0, 0, 0, 0, 0, 0, 0, 0, 0, 0, 0, 0, 0, 0, 0, 0, 0, 0, 0]
theorem aw_rs : (((padR [] 0).set 1 3).set 2 9).set 3 18446744073709551615 = awRs := rfl
theorem nats_of_arr {w : World} {b : Nat} {xs : List Nat} (h : Arr w b (xs.map fun x : Nat => Value.int .u64 x)) : Nats w (some ⟨b, 0, none⟩) xs := fun j x hj => by
  refine ⟨b, 0, rfl, h.lt, ?_⟩
  rw [Nat.zero_add]
  exact h.cell j _ (by rw [List.getElem?_map, hj]; rfl)
/-- An instruction in a block of code that was just made. -/
theorem ins_block {w : World} {cg k : Nat} {cs : Array Value} {T : TypeId} {op A B C : Int} {V : Nat} {M W : Int} (h : w.heap[cg]? = some (.cells cs T (0, 0)))
    (h0 : cs[k * 7]? = some (.int .i64 op)) (h1 : cs[k * 7 + 1]? = some (.int .i64 A)) (h2 : cs[k * 7 + 2]? = some (.int .i64 B)) (h3 : cs[k * 7 + 3]? = some (.int .i64 C)) (h4 : cs[k * 7 + 4]? = some (.int .u64 V)) (h5 : cs[k * 7 + 5]? = some (.int .i64 M)) (h6 : cs[k * 7 + 6]? = some (.int .i64 W)) : InsAt w cg 0 k op A B C V M W :=
  ⟨lt_of_block h, by rw [Nat.zero_add, cell_of_block h]; exact h0, by rw [Nat.zero_add, cell_of_block h]; exact h1, by rw [Nat.zero_add, cell_of_block h]; exact h2, by rw [Nat.zero_add, cell_of_block h]; exact h3, by rw [Nat.zero_add, cell_of_block h]; exact h4, by rw [Nat.zero_add, cell_of_block h]; exact h5, by rw [Nat.zero_add, cell_of_block h]; exact h6⟩

set_option maxRecDepth 100000 in
set_option maxHeartbeats 8000000 in
theorem awake_any (w : World) : Calls Tryd.prog 6 #[] w fun e w' => e = .returned (.bool true) ∧ New w w' := by
  go_enter Tryd.func6, Tryd.ntmps6
  go_wp2_with fail
  have n0 : New w (w.alloc (.cells #[.int .u64 3] 47)) := (Fr.refl _ _).alloc _
  have ha0 : Arr (w.alloc (.cells #[.int .u64 3] 47)) w.heap.size [.int .u64 3] := Arr.new _ _ _
  have hnats : Nats (w.alloc (.cells #[.int .u64 3] 47)) (some ⟨w.heap.size, 0, none⟩) [3] := nats_of_arr (xs := [3]) ha0
  refine (both_any [3] _ 1 _ hnats (by simp) (by simp)).mono ?_
  rintro e w1 ⟨b, cb, wb, rb, rwb, rhb, rfl, hsix, hs, hn⟩
  have HS := Lib.hid (show Sync w1 b cb wb rb rwb rhb (bothCs [3] 1) bothWs 1 from hs)
  have HN := Lib.hid (n0.trans hn)
  have HSIX := Lib.hid (show ∀ k, Six b cb wb rb rwb rhb k → w.heap.size ≤ k from fun k hk => Nat.le_trans n0.size (hsix k hk))
  clear n0 ha0 hnats hsix hs hn
  go_wp2_with fail
  obtain ⟨W1, hW1⟩ : ∃ W1, (w1.alloc (.cells (frC 0) 50)).drew = W1 := ⟨_, rfl⟩
  have hf1 : FmAt W1 w1.heap.size 0 (.slice none 0 0) ⟨0, padR [] 0, []⟩ := by rw [← hW1]; exact (fm_block (xs := []) (block_alloc_new w1 (.cells (frC 0) 50))).new (Fr.refl _ _).drew
  have hn1 : New w1 W1 := by rw [← hW1]; exact ((Fr.refl _ _).alloc _).drew
  unfold frC at hW1
  refine heldStart (fun _ => True) (by kernel_rfl) ?_
  rw [hW1]
  have hlb := HS.out.m.hd.lt
  have hlc := HS.out.m.cells.lt
  have hlw := HS.out.m.widths.lt
  have hl4 := HS.out.r.hd.lt
  have hl5 := HS.out.r.widths.lt
  have hl6 := HS.out.r.holds.lt
  have hwf : w.heap.size ≤ w1.heap.size := HN.out.size
  obtain ⟨fb, hfb⟩ : ∃ fb, w1.heap.size = fb := ⟨_, rfl⟩
  rw [hfb] at hf1 hlb hlc hlw hl4 hl5 hl6 hwf ⊢
  have HF1 := Lib.hid hf1
  have HS1 := Lib.hid (HS.out.keep hn1 (fun _ _ => id))
  have HN1 := Lib.hid (HN.out.trans hn1)
  clear hW1 hf1 hn1 HS HN
  refine wpAnyH_take (i := 0) (v := ?_) rfl (by kernel_rfl) (by kernel_rfl) (by kernel_rfl) (fun _ _ _ h => h) (Or.inl ⟨by rfl, ?_⟩) trivial ?_
  rotate_left
  · intro w _; go_simp; rfl
  go_simp
  refine wpAnyH_take (i := 1) (v := ?_) rfl (by kernel_rfl) (by kernel_rfl) (by kernel_rfl) (fun _ _ _ h => h) (Or.inl ⟨by rfl, ?_⟩) trivial ?_
  rotate_left
  · intro w _; go_simp; rfl
  go_simp
  refine wpAnyH_take (i := 2) (v := ?_) rfl (by kernel_rfl) (by kernel_rfl) (by kernel_rfl) (fun _ _ _ h => h) (Or.inl ⟨by rfl, ?_⟩) trivial ?_
  rotate_left
  · intro w _; go_simp; rfl
  go_simp
  refine wpAnyH_take (i := 3) (v := ?_) rfl (by kernel_rfl) (by kernel_rfl) (by kernel_rfl) (fun _ _ _ h => h) (Or.inl ⟨by rfl, ?_⟩) trivial ?_
  rotate_left
  · intro w _; go_simp; rfl
  go_simp
  refine wpAnyH_take (i := 4) (v := ?_) rfl (by kernel_rfl) (by kernel_rfl) (by kernel_rfl) (fun _ _ _ h => h) (Or.inl ⟨by rfl, ?_⟩) trivial ?_
  rotate_left
  · intro w _; go_simp; rfl
  go_simp
  refine wpAnyH_take (i := 5) (v := ?_) rfl (by kernel_rfl) (by kernel_rfl) (by kernel_rfl) (fun _ _ _ h => h) (Or.inl ⟨by rfl, ?_⟩) trivial ?_
  rotate_left
  · intro w _; go_simp; rfl
  go_simp
  refine wpAnyH_take (i := 7) (v := ?_) rfl (by kernel_rfl) (by kernel_rfl) (by kernel_rfl) (fun _ _ _ h => h) (Or.inl ⟨by rfl, ?_⟩) trivial ?_
  rotate_left
  · intro w _; go_simp; rfl
  go_simp
  refine wpAnyH_take (i := 8) (v := ?_) rfl (by kernel_rfl) (by kernel_rfl) (by kernel_rfl) (fun _ _ _ h => h) (Or.inl ⟨by rfl, ?_⟩) trivial ?_
  rotate_left
  · intro w _; go_simp; rfl
  go_simp
  refine wpAnyH_take (i := 11) (v := ?_) rfl (by kernel_rfl) (by kernel_rfl) (by kernel_rfl) (fun _ _ _ h => h) (Or.inl ⟨by rfl, ?_⟩) trivial ?_
  rotate_left
  · intro w _; go_simp; rfl
  go_simp
  refine wpAnyH_take (i := 12) (v := ?_) rfl (by kernel_rfl) (by kernel_rfl) (by kernel_rfl) (fun _ _ _ h => h) (Or.inl ⟨by rfl, ?_⟩) trivial ?_
  rotate_left
  · intro w _; go_simp; rfl
  go_simp
  refine heldOne (i := 6) (by kernel_rfl) rfl (by rfl) (fun K hK => ?_)
  have ya := HF1.out.fr.regD (j := 1) (by omega)
  rw [show 0 + 1 + 1 = 2 from rfl] at ya
  have yz := HF1.out.fr.free
  go_simp
  have hf2 := HF1.out.setReg (j := 1) (y := 3) (by omega) (by omega)
  have f2 := (Fr34.set (fb := fb) (o := 0) (w := W1) (i := 0 + 1 + 1) (.int .u64 ((3 : Nat) : Int)) (by omega) (by omega)).fr
  have hs2 := HS1.out.keep f2 (fun k hk e => by
    rcases hk with (h | h | h) | (h | h | h) <;> omega)
  have hn2 := HN1.out.then f2 (fun i hi e => by omega)
  rw [show 0 + 1 + 1 = 2 from rfl, show ((3 : Nat) : Int) = 3 from rfl] at hf2 hs2 hn2
  have HF2 := Lib.hid hf2
  have HS2 := Lib.hid hs2
  have HN2 := Lib.hid hn2
  refine hK.out _ _ trivial ?_
  clear hK K ya yz hf2 f2 hs2 hn2
  generalize W1.setCell ⟨fb, 2, none⟩ (.int .u64 3) = W2 at HF2 HS2 HN2 ⊢
  refine wpAnyH_take (i := 9) (v := ?_) rfl (by kernel_rfl) (by kernel_rfl) (by kernel_rfl) (fun _ _ _ h => h) (Or.inl ⟨by rfl, ?_⟩) trivial ?_
  rotate_left
  · intro w _; go_simp; rfl
  go_simp
  refine heldOne (i := 10) (by kernel_rfl) rfl (by rfl) (fun K hK => ?_)
  have ya := HF2.out.fr.regD (j := 2) (by omega)
  rw [show 0 + 1 + 2 = 3 from rfl] at ya
  have yz := HF2.out.fr.free
  go_simp
  have hf2 := HF2.out.setReg (j := 2) (y := 9) (by omega) (by omega)
  have f2 := (Fr34.set (fb := fb) (o := 0) (w := W2) (i := 0 + 1 + 2) (.int .u64 ((9 : Nat) : Int)) (by omega) (by omega)).fr
  have hs2 := HS2.out.keep f2 (fun k hk e => by
    rcases hk with (h | h | h) | (h | h | h) <;> omega)
  have hn2 := HN2.out.then f2 (fun i hi e => by omega)
  rw [show 0 + 1 + 2 = 3 from rfl, show ((9 : Nat) : Int) = 9 from rfl] at hf2 hs2 hn2
  have HF3 := Lib.hid hf2
  have HS3 := Lib.hid hs2
  have HN3 := Lib.hid hn2
  refine hK.out _ _ trivial ?_
  clear hK K ya yz hf2 f2 hs2 hn2
  generalize W2.setCell ⟨fb, 3, none⟩ (.int .u64 9) = W3 at HF3 HS3 HN3 ⊢
  refine wpAnyH_take (i := 13) (v := ?_) rfl (by kernel_rfl) (by kernel_rfl) (by kernel_rfl) (fun _ _ _ h => h) (Or.inl ⟨by rfl, ?_⟩) trivial ?_
  rotate_left
  · intro w _; go_simp; rfl
  go_simp
  refine heldOne (i := 14) (by kernel_rfl) rfl (by rfl) (fun K hK => ?_)
  have ya := HF3.out.fr.regD (j := 3) (by omega)
  rw [show 0 + 1 + 3 = 4 from rfl] at ya
  have yz := HF3.out.fr.free
  go_simp
  have hf2 := HF3.out.setReg (j := 3) (y := 18446744073709551615) (by omega) (by omega)
  have f2 := (Fr34.set (fb := fb) (o := 0) (w := W3) (i := 0 + 1 + 3) (.int .u64 ((18446744073709551615 : Nat) : Int)) (by omega) (by omega)).fr
  have hs2 := HS3.out.keep f2 (fun k hk e => by
    rcases hk with (h | h | h) | (h | h | h) <;> omega)
  have hn2 := HN3.out.then f2 (fun i hi e => by omega)
  rw [show 0 + 1 + 3 = 4 from rfl, show ((18446744073709551615 : Nat) : Int) = 18446744073709551615 from rfl] at hf2 hs2 hn2
  have HF4 := Lib.hid hf2
  have HS4 := Lib.hid hs2
  have HN4 := Lib.hid hn2
  refine hK.out _ _ trivial ?_
  clear hK K ya yz hf2 f2 hs2 hn2
  generalize W3.setCell ⟨fb, 4, none⟩ (.int .u64 18446744073709551615) = W4 at HF4 HS4 HN4 ⊢
  skip
  refine wpAnyH_done (by kernel_rfl) ?_ _
  have HF5 := Lib.hid (show FmAt W4 fb 0 (.slice none 0 0) ⟨0, awRs, []⟩ from HF4.out)
  clear HF1 HF2 HF3 HF4 HS1 HS2 HS3 HN1 HN2 HN3
  go_wp2_with fail
  obtain ⟨W5, hW5⟩ : ∃ W5, W4.alloc (.cells #[.int .i64 21, .int .i64 1, .int .i64 (-1), .int .i64 2, .int .u64 0, .int .i64 0, .int .i64 0, .int .i64 3, .int .i64 2, .int .i64 2, .int .i64 3, .int .u64 0, .int .i64 0, .int .i64 0] 52) = W5 := ⟨_, rfl⟩
  have hb5 : W5.heap[W4.heap.size]? = some (.cells #[.int .i64 21, .int .i64 1, .int .i64 (-1), .int .i64 2, .int .u64 0, .int .i64 0, .int .i64 0, .int .i64 3, .int .i64 2, .int .i64 2, .int .i64 3, .int .u64 0, .int .i64 0, .int .i64 0] 52 (0, 0)) := by rw [← hW5]; exact block_alloc_new _ _
  have hn5 : New W4 W5 := by rw [← hW5]; exact (Fr.refl _ _).alloc _
  have hbs : ∀ k, Six b cb wb rb rwb rhb k ∨ k = fb → k < W4.heap.size := fun k hk => by
    rcases hk with ((rfl | rfl | rfl) | (rfl | rfl | rfl)) | rfl
    · exact HS4.out.m.hd.lt
    · exact HS4.out.m.cells.lt
    · exact HS4.out.m.widths.lt
    · exact HS4.out.r.hd.lt
    · exact HS4.out.r.widths.lt
    · exact HS4.out.r.holds.lt
    · exact HF5.out.fr.lt
  rw [hW5]
  obtain ⟨cg, hcg⟩ : ∃ cg, W4.heap.size = cg := ⟨_, rfl⟩
  rw [hcg] at hb5 hbs ⊢
  have HF6 := Lib.hid (HF5.out.new hn5)
  have HS6 := Lib.hid (HS4.out.keep hn5 (fun _ _ => id))
  have HN6 := Lib.hid (HN4.out.trans hn5)
  have HB6 := Lib.hid hb5
  have hcb := hbs cb (.inl (.inl (.inr (.inl rfl))))
  have hbb := hbs b (.inl (.inl (.inl rfl)))
  have hff := hbs fb (.inr rfl)
  clear hW5 hb5 hn5 HF5 HS4 HN4 hcg
  have hst := step_cas (fb := fb) (o := 0) (mb := b) (v := .slice none 0 0) (F := ⟨0, awRs, []⟩) (cg := cg) (co := 0) (n := 2) (cap := 2) (k := 0) (V := 0) (M := 0) (W := 0) (w := W5) 1 (-1) 2 (fun k => k = b ∨ k = cb) (fun x w2 => x = 3 ∧ MemRep w2 b cb wb (accCs 4 (bothCs [3] 1) bothWs 0 3 9) bothWs (cnt bothWs) 2) HF6.out
    (ins_block (op := 21) (A := 1) (B := -1) (C := 2) (V := 0) (M := 0) (W := 0) HB6.out rfl rfl rfl rfl rfl rfl rfl) (by omega) (by omega) (by omega) rfl (by decide) (by omega) (by omega)
    (fun i hi => ⟨by have := HF6.out.fr.lt; have := HS6.out.m.hd.lt; have := HS6.out.m.cells.lt; omega, by omega, by simp [Value.ownBlock]⟩)
    (fun w' f => (cas_all b cb wb (bothCs [3] 1) bothWs (cnt bothWs) 1 0 3 9 w' (HS6.out.m.keep f id id id) (by omega) (by omega) (by omega) (by omega)).mono fun e w'' ⟨x, h1, h2, h3, h4⟩ => by
      obtain rfl : x = .nilIface := h2
      exact ⟨3, h1, by omega, ⟨rfl, h3⟩, h4.mono (fun _ _ h => h.2)⟩)
  have HST := Lib.hid hst
  clear hst
  refine HST.out.mono ?_
  rintro e w6 ⟨x, w2, rfl, hfm, ⟨rfl, hm⟩, h34, hfs⟩
  have hm6 := hm.keep h34.fr (by omega) (by omega) (by have := HS6.out.m.widths.lt; omega)
  have hb6 := (h34.fr.block cg (by have := hfs.size; have := lt_of_block HB6.out; omega) (by omega)).trans ((hfs.block cg (lt_of_block HB6.out) (by omega)).trans HB6.out)
  have HM7 := Lib.hid hm6
  have HF7 := Lib.hid (show FmAt w6 fb 0 (.slice none 0 0) ⟨1, awRs, []⟩ from hfm)
  have HB7 := Lib.hid hb6
  have HN7 := Lib.hid ((HN6.out.then hfs (fun i hi e => by have := HSIX.out i (.inl (by omega)); omega)).then h34.fr (fun i hi e => by omega))
  clear hfm hm h34 hfs hm6 hb6 HST
  go_wp2_with fail
  have hst := step_reck (fb := fb) (o := 0) (v := .slice none 0 0) (cv := memV b) (F := ⟨1, awRs, []⟩) (cg := cg) (co := 0) (n := 2) (cap := 2) (k := 1) (op := 3) (A := 2) (B := 2) (C := 3) (V := 0) (M := 0) (W := 0) (w := w6) HF7.out
    (ins_block (op := 3) (A := 2) (B := 2) (C := 3) (V := 0) (M := 0) (W := 0) HB7.out rfl rfl rfl rfl rfl rfl rfl) (by omega) (by omega) (by omega) rfl (by decide) (by omega) (by omega)
  have HST := Lib.hid hst
  clear hst
  refine HST.out.mono ?_
  rintro e w8 ⟨v', rfl, hfm, h34, hov⟩
  have HM8 := Lib.hid (HM7.out.keep h34.fr (by omega) (by omega) (by have := HS6.out.m.widths.lt; omega))
  have HF8 := Lib.hid hfm
  have HN8 := Lib.hid (HN7.out.then h34.fr (fun i hi e => by omega))
  clear hfm h34 hov HST HM7 HF7 HB7 HN7
  go_wp2_with fail
  refine (load_all b cb wb _ _ _ _ 0 w8 HM8.out (by omega) (by omega)).mono ?_
  rintro e w9 ⟨x, rfl, hx, hr, hf⟩
  obtain rfl : x = .nilIface := hx
  have hf9 := HF8.out.fr.keep hf (by omega)
  have y1 : w9.cell? ⟨fb, 2, none⟩ = some (.int .u64 3) := hf9.regD (j := 1) (by omega)
  have y2 : w9.cell? ⟨fb, 3, none⟩ = some (.int .u64 8) := hf9.regD (j := 2) (by omega)
  have y0 : w9.cell? ⟨fb, 0, none⟩ = some (.int .i64 2) := hf9.pc
  have hv : accVal (accCs 4 (bothCs [3] 1) bothWs 0 3 9) bothWs 0 = 9 := rfl
  rw [hv, show ((9 : Nat) : Int) = 9 from rfl]
  have HN9 := Lib.hid (HN8.out.then hf (fun i hi e => by have := HSIX.out i (.inl (by omega)); omega))
  clear hr hf hf9 hv
  go_wp2
  go_ret
  exact ⟨rfl, HN9.out⟩

end Go.Proofs.YtngpcalgjaglmaaDoor
