/- Two rows of numbers that are alike: Words says so. -/
import Derived.Test.YteeckkkbmlkkiaaDoorNums
import Derived.Lib.Hide
import Derived.Deep.LoopGhost
import Derived.BigQuiet
import Derived.Deep.QuietTactic
namespace Go.Proofs.YteeckkkbmlkkiaaDoor
open Go.RowKit

set_option maxRecDepth 100000 in
set_option maxHeartbeats 1000000 in
theorem words_same (L : List Nat) (ao bo : Option Addr) (ca cb : Nat) (w : World) (ha : Nats w ao L) (hb : Nats w bo L) (hm : L.length ≤ 9223372036854775807) :
    Calls Tryd.prog 36 #[.slice ao L.length ca, .slice bo L.length cb] w fun e w' => e = .returned (.bool true) ∧ New w w' := by
  obtain ⟨n, hL⟩ : ∃ n, L.length = n := ⟨_, rfl⟩
  rw [hL] at hm ⊢
  have HL := Lib.hid hL
  have HA := Lib.hid ha
  have HB := Lib.hid hb
  clear hL ha hb
  have t0 : ((n : Int) != (n : Int)) = false := by simp
  go_enter Tryd.func36, Tryd.ntmps36
  go_wp2_with fail
  go_loopw [5] (fun i wr => ∃ k : Nat, k ≤ n ∧ i = .int .i64 k ∧ New w wr) (fun i _ => n - (intOf i).toNat)
  case atStart => exact ⟨0, by omega, rfl, Fr.refl _ _⟩
  case round =>
    obtain ⟨k, hk, rfl, hn⟩ := hrel
    have HN := Lib.hid hn
    by_cases hlt : k < n
    · obtain ⟨x, hx⟩ : ∃ x, L[k]? = some x := ⟨L[k]'(by rw [HL.out]; exact hlt), by simp⟩
      obtain ⟨g, off, rfl, hg1, hc1⟩ := (HA.out.keep hn) k x hx
      obtain ⟨g2, off2, rfl, hg2, hc2⟩ := (HB.out.keep hn) k x hx
      have t1 : ((x : Int) != (x : Int)) = false := by simp
      have q1 : (0 : Int) ≤ (k : Int) := by omega
      have q2 : (k : Int) < (n : Int) := by omega
      clear hx hn
      go_wp2_with fail
      go_quiet (fail)
      go_wp2
      go_roundw
      case rel => exact ⟨k + 1, by omega, by go_num, HN.out.drewN _⟩
      case measure => simp [intOf]; omega
    · clear hn
      go_wp2
      go_ret
      exact ⟨rfl, HN.out⟩

end Go.Proofs.YteeckkkbmlkkiaaDoor
