/- A slice of numbers spoilt. -/
import Derived.Test.YtafeopcbfgmjkaaLib
import Derived.Lib.Hide
import Derived.Laws.OwnMore
namespace Go.Proofs.Ytafeopcbfgmjkaa
open Go.RowKit

set_option maxRecDepth 100000 in
set_option maxHeartbeats 1000000 in
theorem spoil_any (v : Value) (n base : Nat) (xs : List Value) (w : World) (h : w.ownsRow base 28 1 v n xs) :
    Calls Try.prog 10 #[v] w fun e w' => e = .returned (.tuple #[]) ∧ Fr (fun k => v.ownBlock = some k) w w' := by
  rcases h.2 with ⟨rfl, rfl⟩ | ⟨g, cap, cur, rfl, hg, hb, hle, hcap, hsz, _⟩
  · clear h
    go_enter Try.func10, Try.ntmps10
    go_wp2_with fail
    go_loopw [2] (fun i wr => i = .int .i64 0 ∧ wr = w) (fun _ _ => 0)
    case atStart => exact ⟨rfl, rfl⟩
    case round =>
      obtain ⟨rfl, rfl⟩ := hrel
      go_wp2
      go_end0
      exact ⟨rfl, Fr.refl _ _⟩
  · unfold maxLen at hcap
    have hlt := lt_of_block hb
    have HB := Lib.hid hb
    clear h hb
    go_enter Try.func10, Try.ntmps10
    go_wp2_with fail
    go_loopw [2] (fun i wr => ∃ k : Nat, k ≤ cap ∧ i = .int .i64 k ∧ (∃ cs, wr.heap[g]? = some (.cells cs 28 (0, 0)) ∧ cs.size = cap * 1) ∧ Fr (fun k => g = k) w wr) (fun i _ => cap - (intOf i).toNat)
    case atStart => exact ⟨0, by omega, rfl, ⟨cur, HB.out, hsz⟩, Fr.refl _ _⟩
    case round =>
      obtain ⟨k, hk, rfl, ⟨cs, hcs, hcz⟩, hf⟩ := hrel
      have HF := Lib.hid hf
      by_cases hlt2 : k < cap
      · have x0 : wr.cell? ⟨g, k, none⟩ = some cs[k] := by rw [cell_of_block hcs]; simp
        have z0 := free_of_block hcs k
        have l0 := lt_of_block hcs
        have HCS := Lib.hid (block_setCell (o := k) hcs (.int .u64 9223372036854775813))
        clear hcs hf
        go_wp2_with fail
        go_roundw
        case rel => exact ⟨k + 1, by omega, by go_num, ⟨_, HCS.out, by simpa using hcz⟩, HF.out.setCell (fun _ => rfl) _⟩
        case measure => simp [intOf]; omega
      · clear hcs hf
        go_wp2
        go_end0
        exact ⟨rfl, HF.out.mono (fun k _ e => by rw [← e]; rfl)⟩

end Go.Proofs.Ytafeopcbfgmjkaa
