/- The statements' own comparison of an error with what the document says. -/
import Derived.Test.YtngpcalgjaglmaaErrB
import Derived.BigQuiet
import Derived.Deep.QuietTactic
import Derived.Test.YtngpcalgjaglmaaReg
namespace Go.Proofs.Ytngpcalgjaglmaa
open Go.RowKit

/-- What the document says: the error with one place. -/
def FailIs (w : World) (f : Value) (l : ByteArray) (n k : Int) : Prop :=
  ∃ b lb pb lc pc, f = .pointer (some ⟨b, 0, none⟩) ∧ w.heap[b]? = some (.cells #[.slice (some ⟨lb, 0, none⟩) 1 lc, .slice (some ⟨pb, 0, none⟩) 1 pc, .int .i64 k] 96 (0, 0)) ∧
    w.heap[lb]? = some (.cells #[.string l] 9 (0, 0)) ∧ w.heap[pb]? = some (.cells #[.int .i64 n] 3 (0, 0))

theorem FailIs.new {w w' : World} (f : New w w') {v : Value} {l : ByteArray} {n k : Int} (h : FailIs w v l n k) : FailIs w' v l n k := by
  obtain ⟨b, lb, pb, lc, pc, hv, h1, h2, h3⟩ := h
  exact ⟨b, lb, pb, lc, pc, hv, by rw [f.block b (lt_of_block h1) id]; exact h1, by rw [f.block lb (lt_of_block h2) id]; exact h2, by rw [f.block pb (lt_of_block h3) id]; exact h3⟩

set_option maxHeartbeats 1000000 in
theorem no_any (l : ByteArray) (n k : Int) (w : World) :
    Calls Try.prog 39 #[.string l, .int .i64 n, .int .i64 k] w fun e w' => ∃ f, e = .returned f ∧ FailIs w' f l n k ∧ New w w' := by
  go_enter Try.func39, Try.ntmps39
  go_wp2
  go_ret
  refine ⟨_, rfl, ⟨w.heap.size + 1 + 1, w.heap.size, w.heap.size + 1, 1, 1, rfl, ?_, ?_, ?_⟩, (((Fr.refl _ _).alloc _).alloc _).alloc _⟩
  · exact block_alloc_new2 _ _ _ _
  · rw [block_alloc (by simp; omega), block_alloc (by simp)]; exact block_alloc_new _ _
  · rw [block_alloc (by simp)]; exact block_alloc_new1 _ _ _

theorem same_facts {w0 w1 : World} {o : Obj} {b lb pb eb lc pc : Nat} {l : ByteArray} {n k : Int} {inner : Value} (f : Fr (· = w0.heap.size) (w0.alloc o).drew w1)
    (hb : w0.heap[b]? = some (.cells #[.slice (some ⟨lb, 0, none⟩) 1 lc, .slice (some ⟨pb, 0, none⟩) 1 pc, .int .i64 k] 96 (0, 0)))
    (hlb : w0.heap[lb]? = some (.cells #[.string l] 9 (0, 0))) (hpb : w0.heap[pb]? = some (.cells #[.int .i64 n] 3 (0, 0)))
    (heb : w0.heap[eb]? = some (.cells #[.string l, .int .i64 n, inner] 81 (0, 0))) :
    w1.cell? ⟨b, 0, none⟩ = some (.slice (some ⟨lb, 0, none⟩) 1 lc) ∧ w1.cell? ⟨b, 1, none⟩ = some (.slice (some ⟨pb, 0, none⟩) 1 pc) ∧ w1.cell? ⟨lb, 0, none⟩ = some (.string l) ∧ w1.cell? ⟨pb, 0, none⟩ = some (.int .i64 n) ∧
      w1.cell? ⟨eb, 0, none⟩ = some (.string l) ∧ w1.cell? ⟨eb, 1, none⟩ = some (.int .i64 n) ∧ w1.cell? ⟨eb, 2, none⟩ = some inner ∧ New w0 w1 := by
  have g : ∀ {i : Nat} {c : Array Value} {T : TypeId}, w0.heap[i]? = some (.cells c T (0, 0)) → w1.heap[i]? = some (.cells c T (0, 0)) := fun {i c T} h => by
    have := lt_of_block h
    rw [f.block i (by simp; omega) (by omega)]; exact (block_alloc this).trans h
  exact ⟨cell_of_block (g hb) 0, cell_of_block (g hb) 1, cell_of_block (g hlb) 0, cell_of_block (g hpb) 0, cell_of_block (g heb) 0, cell_of_block (g heb) 1, cell_of_block (g heb) 2,
    ((Fr.refl (fun _ => False) _).alloc o).drew.then f (fun i hi e => by omega)⟩

end Go.Proofs.Ytngpcalgjaglmaa
