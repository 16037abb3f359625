/- Words cut and summed; a memory, and how wide its cells are. -/
import Derived.Test.YtngpcalgjaglmaaDoorLib
import Derived.Lib.Hide
namespace Go.Proofs.YtngpcalgjaglmaaDoor
open Go.RowKit

/-- v modulo 2^W, W being 32 or 64. -/
def cutN (W v : Nat) : Nat := if W = 32 then v % 4294967296 else v
def sumN (W a b : Nat) : Nat := cutN W ((cutN W a + cutN W b) % 18446744073709551616)
theorem cutN_le (W v : Nat) (hv : v < 18446744073709551616) : cutN W v < 18446744073709551616 := by unfold cutN; split <;> omega
theorem sumN_le (W a b : Nat) : sumN W a b < 18446744073709551616 := cutN_le _ _ (Nat.mod_lt _ (by omega))

set_option maxRecDepth 100000 in
set_option maxHeartbeats 400000 in
theorem cut_any (W v : Nat) (w : World) (hv : v < 18446744073709551616) (hW : W = 32 ∨ W = 64) :
    Calls Tryd.prog 63 #[.int .i64 W, .int .u64 v] w fun e w' => e = .returned (.int .u64 (cutN W v : Nat)) ∧ w = w' := by
  rcases hW with rfl | rfl
  · have hb := and_low32 (v : Int) (by omega) (by omega)
    rw [show ((32 : Nat) : Int) = 32 from rfl]
    go_enter Tryd.func63, Tryd.ntmps63
    go_wp2
    go_ret
    exact ⟨ret_int (by show _ = ((v % 4294967296 : Nat) : Int); omega), rfl⟩
  · rw [show ((64 : Nat) : Int) = 64 from rfl]
    go_enter Tryd.func63, Tryd.ntmps63
    go_wp2
    go_ret
    exact ⟨rfl, rfl⟩

theorem wrapU (a : Nat) : IntKind.u64.wrap (a : Int) = ((a % 18446744073709551616 : Nat) : Int) := by
  simp [IntKind.wrap, IntKind.signed, IntKind.bits]

set_option maxRecDepth 100000 in
set_option maxHeartbeats 400000 in
theorem sum_any (W a b : Nat) (w : World) (ha : a < 18446744073709551616) (hb : b < 18446744073709551616) (hW : W = 32 ∨ W = 64) :
    Calls Tryd.prog 49 #[.int .i64 W, .int .u64 a, .int .u64 b] w fun e w' => e = .returned (.int .u64 (sumN W a b : Nat)) ∧ w = w' := by
  have HW := Lib.hid hW
  have h1 := cutN_le W a ha
  have h2 := cutN_le W b hb
  clear hW
  go_enter Tryd.func49, Tryd.ntmps49
  go_wp2_with fail
  refine (cut_any W a _ ha HW.out).mono ?_
  rintro e w' ⟨rfl, rfl⟩
  go_wp2_with fail
  refine (cut_any W b _ hb HW.out).mono ?_
  rintro e w' ⟨rfl, rfl⟩
  generalize hx : cutN W a = x at h1 ⊢
  generalize hy : cutN W b = y at h2 ⊢
  have HX := Lib.hid hx
  have HY := Lib.hid hy
  clear hx hy
  go_wp2_with fail
  rw [show IntKind.u64.wrap ((x : Int) + (y : Int)) = (((x + y) % 18446744073709551616 : Nat) : Int) from wrapU (x + y)]
  refine (cut_any W _ _ (Nat.mod_lt _ (by omega)) HW.out).mono ?_
  rintro e w' ⟨rfl, rfl⟩
  go_wp2
  go_ret
  exact ⟨ret_int (by rw [← HX.out, ← HY.out]; rfl), rfl⟩

/-- Block b is the memory, cb its cells, wb their widths; th are there, ct accesses were done. -/
structure MemRep (w : World) (b cb wb : Nat) (cs ws : List Nat) (th ct : Nat) : Prop where
  ne : b ≠ cb ∧ b ≠ wb ∧ cb ≠ wb
  hd : Arr w b [.slice (some ⟨cb, 0, none⟩) cs.length cs.length, .slice (some ⟨wb, 0, none⟩) cs.length cs.length, .int .i64 th, .int .i64 ct]
  cells : Arr w cb (cs.map fun x : Nat => .int .u64 x)
  widths : Arr w wb (ws.map fun x : Nat => .int .u8 x)
  len : cs.length = ws.length ∧ cs.length ≤ 10000000
  fits : ∀ x ∈ cs, x < 18446744073709551616
  wide : ∀ x ∈ ws, x = 0 ∨ x = 32 ∨ x = 64
  few : th ≤ 10000000 ∧ ct < 1000000000

theorem MemRep.keep {w w' : World} {b cb wb : Nat} {cs ws : List Nat} {th ct : Nat} {S : Nat → Prop} (h : MemRep w b cb wb cs ws th ct) (f : Fr S w w') (h1 : ¬ S b) (h2 : ¬ S cb) (h3 : ¬ S wb) : MemRep w' b cb wb cs ws th ct :=
  ⟨h.ne, h.hd.keep f h1, h.cells.keep f h2, h.widths.keep f h3, h.len, h.fits, h.wide, h.few⟩

theorem at_map {xs : List Nat} {k : IntKind} {i x : Nat} {w : World} {b : Nat} (h : Arr w b (xs.map fun x : Nat => .int k x)) (hx : xs[i]? = some x) : w.cell? ⟨b, i, none⟩ = some (.int k x) :=
  h.cell i _ (by rw [List.getElem?_map, hx]; rfl)

set_option maxRecDepth 100000 in
set_option maxHeartbeats 400000 in
theorem width_at (b cb wb : Nat) (cs ws : List Nat) (th ct p W : Nat) (w : World) (h : MemRep w b cb wb cs ws th ct) (hw : ws[p]? = some W) :
    Calls Tryd.prog 62 #[.pointer (some ⟨b, 0, none⟩), .int .u64 p] w fun e w' => e = .returned (.int .i64 W) ∧ w = w' := by
  have c0 := h.hd.cell 0 _ rfl
  have c1 := h.hd.cell 1 _ rfl
  have hl := h.len.2
  have hlt : p < cs.length := by rw [h.len.1]; exact (List.getElem?_eq_some_iff.1 hw).1
  have cw := at_map h.widths hw
  have hW : W ≤ 64 := by have := h.wide W (List.mem_of_getElem? hw); omega
  clear hw
  go_enter Tryd.func62, Tryd.ntmps62
  go_wp2
  go_ret
  exact ⟨rfl, rfl⟩

set_option maxRecDepth 100000 in
set_option maxHeartbeats 400000 in
theorem width_far (b cb wb : Nat) (cs ws : List Nat) (th ct p : Nat) (w : World) (h : MemRep w b cb wb cs ws th ct) (hw : cs.length ≤ p) :
    Calls Tryd.prog 62 #[.pointer (some ⟨b, 0, none⟩), .int .u64 p] w fun e w' => e = .returned (.int .i64 0) ∧ w = w' := by
  have c0 := h.hd.cell 0 _ rfl
  have hl := h.len.2
  go_enter Tryd.func62, Tryd.ntmps62
  go_wp2
  go_ret
  exact ⟨rfl, rfl⟩

end Go.Proofs.YtngpcalgjaglmaaDoor
