/- A loop adds the numbers from n down to 1: the statement's walk. -/
import Derived.Test.YtngpcalgjaglmaaVmJ
namespace Go.Proofs.Ytngpcalgjaglmaa
open Go.RowKit

def smR (a s : Nat) : List Nat := [0, a, s, 0, 0, 0, 0, 0, 0, 0, 0, 0, 0, 0, 0, 0, 0, 0, 0, 0, 0, 0, 0, 0, 0, 0, 0, 0, 0, 0, 0, 0]
/-- The sum of N, N - 1 and so on, q of them. -/
def smQ (N : Nat) : Nat → Nat
  | 0 => 0
  | q + 1 => smQ N q + (N - q)
theorem smQ_le (N : Nat) : ∀ q, smQ N q ≤ N * q
  | 0 => Nat.le_refl _
  | q + 1 => by
    have := smQ_le N q
    show smQ N q + (N - q) ≤ N * (q + 1)
    rw [Nat.mul_succ]; omega
theorem smQ_form (N : Nat) : ∀ q, q ≤ N → 2 * smQ N q + q * q = 2 * (N * q) + q
  | 0, _ => by simp [smQ]
  | q + 1, h => by
    have ih := smQ_form N q (by omega)
    show 2 * (smQ N q + (N - q)) + (q + 1) * (q + 1) = 2 * (N * (q + 1)) + (q + 1)
    have e1 : (q + 1) * (q + 1) = q * q + q + q + 1 := by rw [Nat.mul_succ, Nat.succ_mul]; omega
    have e2 : N * (q + 1) = N * q + N := Nat.mul_succ N q
    rw [e1, e2]
    omega
theorem smQ_all (N : Nat) : smQ N N = N * (N + 1) / 2 := by
  have h := smQ_form N N (Nat.le_refl _)
  rw [Nat.mul_succ]; omega
/-- Where the loop stands behind i steps. -/
inductive SmAt (N : Nat) : Nat → Nat → Nat → Nat → Prop
  | start : SmAt N 0 0 0 0
  | top (q : Nat) : q ≤ N → SmAt N (1 + 3 * q) (if q < N then 1 else 4) (N - q) (smQ N q)
  | added (q : Nat) : q < N → SmAt N (2 + 3 * q) 2 (N - q) (smQ N (q + 1))
  | less (q : Nat) : q < N → SmAt N (3 + 3 * q) 3 (N - q - 1) (smQ N (q + 1))

def smC (N : Nat) : Array Value := #[.int .i64 1, .int .i64 1, .int .i64 0, .int .i64 0, .int .u64 N, .int .i64 0, .int .i64 0, .int .i64 3, .int .i64 2, .int .i64 2, .int .i64 1, .int .u64 0, .int .i64 0, .int .i64 0, .int .i64 4, .int .i64 1, .int .i64 1, .int .i64 (-1), .int .u64 1, .int .i64 0, .int .i64 0, .int .i64 14, .int .i64 1, .int .i64 0, .int .i64 0, .int .u64 1, .int .i64 0, .int .i64 0, .int .i64 16, .int .i64 0, .int .i64 0, .int .i64 0, .int .u64 0, .int .i64 0, .int .i64 0]
theorem sm_good (N : Nat) : goodV 1 1 0 0 N 5 = true := by
  show mayB 1 1 0 0 N 0 0 5 true = true
  have h1 : numB 1 0 0 N 5 true = true := by unfold numB numP; simp [plc, noC]
  unfold mayB restB
  rw [show fV 1 = true by decide, h1]
  decide
theorem reckN3 (V b c : Nat) : reckN 3 V b c = (b + c) % 18446744073709551616 := by
  unfold reckN
  rw [if_neg (by decide), if_pos rfl]
theorem reckN4 (V b c : Nat) : reckN 4 V b c = (b + (18446744073709551616 - c)) % 18446744073709551616 := by
  unfold reckN
  rw [if_neg (by decide), if_neg (by decide), if_pos rfl]
theorem sm_add (a s : Nat) (h : s + a ≤ 2500) : reckF 3 2 2 1 0 ⟨((1 : Nat) : Int), smR a s, []⟩ = ⟨((2 : Nat) : Int), smR a (s + a), []⟩ := by
  unfold reckF
  rw [reckN3]
  simp only []
  rw [show regN (smR a s) 2 = s from rfl, show valN (smR a s) 1 0 = a from rfl, Nat.mod_eq_of_lt (by omega)]
  rfl
theorem sm_sub (a s : Nat) (h : 1 ≤ a ∧ a ≤ 50) : reckF 4 1 1 (-1) 1 ⟨((2 : Nat) : Int), smR a s, []⟩ = ⟨((3 : Nat) : Int), smR (a - 1) s, []⟩ := by
  have e : (a + (18446744073709551616 - 1)) % 18446744073709551616 = a - 1 := by omega
  unfold reckF
  rw [reckN4]
  simp only []
  rw [show regN (smR a s) 1 = a from rfl, show valN (smR a s) (-1) 1 = 1 from rfl, e]
  rfl
theorem sm_step (fb cg N i p a s : Nat) (v : Value) (w : World) (h : FmAt w fb 0 v ⟨p, smR a s, []⟩) (hc : w.heap[cg]? = some (.cells (smC N) 24 (0, 0))) (hs : SmAt N i p a s) (hi : i < 1 + 3 * N) (h1 : 1 ≤ N) (h2 : N ≤ 50) :
    Calls Try.prog 15 #[.pointer (some ⟨fb, 0, none⟩), .slice (some ⟨cg, 0, none⟩) 5 5, .nilIface] w fun e w' => e = .returned (.tuple #[.int .i64 0, .nilIface]) ∧ ∃ v' p' a' s', FmAt w' fb 0 v' ⟨((p' : Nat) : Int), smR a' s', []⟩ ∧ SmAt N (i + 1) p' a' s' ∧ Fr (· = fb) w w' := by
  have hle : ∀ q, q ≤ N → smQ N q ≤ 2500 := fun q hq => by
    have h1 := smQ_le N q
    have h3 := Nat.mul_le_mul h2 (show q ≤ 50 by omega)
    omega
  cases hs with
  | start =>
    refine (step_reck (fb := fb) (o := 0) (v := v) (cv := .nilIface) (F := ⟨0, smR 0 0, []⟩) (cg := cg) (co := 0) (n := 5) (cap := 5) (k := 0) (op := 1) (A := 1) (B := 0) (C := 0) (V := N) (M := 0) (W := 0) (w := w) h (ins_block hc rfl rfl rfl rfl rfl rfl rfl) (by omega) (by omega) (by omega) rfl (sm_good N) (by omega) (by omega)).mono ?_
    rintro e w' ⟨v', rfl, hf, h34, _⟩
    refine ⟨rfl, v', 1, N, 0, hf, ?_, h34.fr⟩
    have := SmAt.top (N := N) 0 (by omega)
    rw [if_pos (by omega)] at this
    exact this
  | top q hq =>
    have hqN : q < N := by omega
    rw [if_pos hqN] at h
    have hs1 := hle (q + 1) (by omega)
    have hs2 : smQ N (q + 1) = smQ N q + (N - q) := rfl
    refine (step_reck (fb := fb) (o := 0) (v := v) (cv := .nilIface) (F := ⟨1, smR (N - q) (smQ N q), []⟩) (cg := cg) (co := 0) (n := 5) (cap := 5) (k := 1) (op := 3) (A := 2) (B := 2) (C := 1) (V := 0) (M := 0) (W := 0) (w := w) h (ins_block hc rfl rfl rfl rfl rfl rfl rfl) (by omega) (by omega) (by omega) rfl (by decide) (by omega) (by omega)).mono ?_
    rintro e w' ⟨v', rfl, hf, h34, _⟩
    refine ⟨rfl, v', 2, N - q, smQ N (q + 1), ?_, by rw [show 1 + 3 * q + 1 = 2 + 3 * q by omega]; exact SmAt.added q hqN, h34.fr⟩
    have e := sm_add (N - q) (smQ N q) (by omega)
    rw [← hs2] at e
    rw [← e]
    exact hf
  | added q hq =>
    refine (step_reck (fb := fb) (o := 0) (v := v) (cv := .nilIface) (F := ⟨2, smR (N - q) (smQ N (q + 1)), []⟩) (cg := cg) (co := 0) (n := 5) (cap := 5) (k := 2) (op := 4) (A := 1) (B := 1) (C := -1) (V := 1) (M := 0) (W := 0) (w := w) h (ins_block hc rfl rfl rfl rfl rfl rfl rfl) (by omega) (by omega) (by omega) rfl (by decide) (by omega) (by omega)).mono ?_
    rintro e w' ⟨v', rfl, hf, h34, _⟩
    refine ⟨rfl, v', 3, N - q - 1, smQ N (q + 1), ?_, by rw [show 2 + 3 * q + 1 = 3 + 3 * q by omega]; exact SmAt.less q hq, h34.fr⟩
    rw [← sm_sub (N - q) (smQ N (q + 1)) (by omega)]
    exact hf
  | less q hq =>
    refine (step_jump (fb := fb) (o := 0) (v := v) (cv := .nilIface) (F := ⟨3, smR (N - q - 1) (smQ N (q + 1)), []⟩) (cg := cg) (co := 0) (n := 5) (cap := 5) (k := 3) (op := 14) (A := 1) (B := 0) (C := 0) (V := 1) (M := 0) (W := 0) (w := w) h (ins_block hc rfl rfl rfl rfl rfl rfl rfl) (by omega) (by omega) (by omega) rfl (by decide) (by omega) (by omega) (by omega)).mono ?_
    rintro e w' ⟨v', rfl, hf, h34, _⟩
    have hj : jumpN 14 1 1 ⟨3, smR (N - q - 1) (smQ N (q + 1)), []⟩ = (0, ⟨if N - q - 1 = 0 then 4 else 1, smR (N - q - 1) (smQ N (q + 1)), []⟩) := by
      unfold jumpN
      rw [if_neg (by decide), if_neg (by decide), if_neg (by decide), show (smR (N - q - 1) (smQ N (q + 1))).getD (1 : Int).toNat 0 = N - q - 1 from rfl]
      by_cases h0 : N - q - 1 = 0
      · rw [if_neg (by simp [h0]), if_pos h0]; rfl
      · rw [if_pos (by simp [h0]), if_neg h0]; rfl
    rw [hj] at hf ⊢
    have ht := SmAt.top (N := N) (q + 1) (by omega)
    rw [show 1 + 3 * (q + 1) = 3 + 3 * q + 1 by omega, show N - (q + 1) = N - q - 1 by omega] at ht
    refine ⟨rfl, v', _, _, _, ?_, ht, h34.fr⟩
    by_cases h0 : q + 1 < N
    · rw [if_pos h0]
      rw [if_neg (by omega)] at hf
      exact hf
    · rw [if_neg h0]
      rw [if_pos (by omega)] at hf
      exact hf

set_option maxRecDepth 100000 in
set_option maxHeartbeats 8000000 in
theorem sums_walk (n : Nat) (w : World) (hn : n < 18446744073709551616) :
    Calls Try.prog 6 #[.int .u64 n] w fun e w' => e = .returned (.bool true) ∧ New w w' := by
  obtain ⟨m, hm⟩ : ∃ m, n % 50 = m := ⟨_, rfl⟩
  have hm50 : m < 50 := by omega
  have tr : (n : Int).tmod 50 = (m : Int) := by rw [← hm]; rfl
  have e1 : (1 : Int) + (m : Int) = ((m + 1 : Nat) : Int) := by omega
  have tw : IntKind.u64.wrap (((m + 1 : Nat) : Int)) = ((m + 1 : Nat) : Int) := IntWalk.u64_in _ (by omega)
  obtain ⟨N, hN⟩ : ∃ N, m + 1 = N := ⟨_, rfl⟩
  rw [hN] at e1 tw
  have hN1 : 1 ≤ N := by omega
  have hN2 : N ≤ 50 := by omega
  clear hm hN
  go_enter Try.func6, Try.ntmps6
  go_wp2_with fail
  obtain ⟨W2, hW2⟩ : ∃ W2, (w.alloc (.cells (smC N) 24)).alloc (.cells (frC 0) 35) = W2 := ⟨_, rfl⟩
  have hn2 : New w W2 := by rw [← hW2]; exact ((Fr.refl _ _).alloc _).alloc _
  have hb2 : W2.heap[w.heap.size]? = some (.cells (smC N) 24 (0, 0)) := by rw [← hW2, block_alloc (by simp)]; exact block_alloc_new _ _
  have hf2 : FmAt W2 (w.heap.size + 1) 0 (.slice none 0 0) ⟨((0 : Nat) : Int), smR 0 0, []⟩ := by rw [← hW2]; exact fm_block (xs := []) (block_alloc_new1 _ _ _)
  unfold smC frC at hW2
  rw [hW2]
  obtain ⟨cg, hcg⟩ : ∃ cg, w.heap.size = cg := ⟨_, rfl⟩
  have hwc : w.heap.size ≤ cg := by omega
  rw [hcg] at hb2 hf2 ⊢
  have hcl := lt_of_block hb2
  have HF2 := Lib.hid hf2
  have HB2 := Lib.hid hb2
  have HN2 := Lib.hid hn2
  clear hW2 hb2 hf2 hn2 hcg tr e1
  go_loopw [5] (fun i wr => ∃ j p a s v, j ≤ 1 + 3 * N ∧ i = .int .u64 ((j : Nat) : Int) ∧ FmAt wr (cg + 1) 0 v ⟨((p : Nat) : Int), smR a s, []⟩ ∧ SmAt N j p a s ∧ Fr (· = cg + 1) W2 wr) (fun i _ => 1 + 3 * N - (intOf i).toNat)
  case atStart => exact ⟨0, 0, 0, 0, _, by omega, rfl, HF2.out, SmAt.start, Fr.refl _ _⟩
  case round =>
    obtain ⟨j, p, a, s, v, hj, rfl, hf, hs, hfr⟩ := hrel
    have HF := Lib.hid hf
    have HS := Lib.hid hs
    have HFR := Lib.hid hfr
    have tm : IntKind.u64.wrap (3 * (N : Int)) = 3 * (N : Int) := IntWalk.u64_in _ (by omega)
    have tm2 : IntKind.u64.wrap (1 + 3 * (N : Int)) = 1 + 3 * (N : Int) := IntWalk.u64_in _ (by omega)
    clear hf hs hfr
    by_cases hlt : j < 1 + 3 * N
    · have hst := sm_step (cg + 1) cg N j p a s v wr HF.out ((HFR.out.block cg hcl (by omega)).trans HB2.out) HS.out hlt hN1 hN2
      have HST := Lib.hid hst
      clear hst
      go_wp2_with fail
      refine HST.out.mono ?_
      rintro e w3 ⟨rfl, v', p', a', s', hf', hs', hfr'⟩
      have HF' := Lib.hid hf'
      have HS' := Lib.hid hs'
      have HFR' := Lib.hid (HFR.out.trans hfr')
      clear hf' hs' hfr'
      go_wp2
      go_roundw
      case rel => exact ⟨j + 1, p', a', s', v', by omega, by go_num, HF'.out, HS'.out, HFR'.out⟩
      case measure => simp [intOf]; omega
    · obtain rfl : j = 1 + 3 * N := by omega
      have hend : p = 4 ∧ a = 0 ∧ s = N * (N + 1) / 2 := by
        have h := HS.out
        generalize hJ : 1 + 3 * N = J at h
        cases h with
        | start => omega
        | top q hq =>
          obtain rfl : q = N := by omega
          exact ⟨if_neg (by omega), by omega, smQ_all q⟩
        | added q hq => omega
        | less q hq => omega
      obtain ⟨rfl, rfl, hsv⟩ := hend
      have hst := step_jump (fb := cg + 1) (o := 0) (v := v) (cv := .nilIface) (F := ⟨((4 : Nat) : Int), smR 0 s, []⟩) (cg := cg) (co := 0) (n := 5) (cap := 5) (k := 4) (op := 16) (A := 0) (B := 0) (C := 0) (V := 0) (M := 0) (W := 0) (w := wr) HF.out (ins_block ((HFR.out.block cg hcl (by omega)).trans HB2.out) rfl rfl rfl rfl rfl rfl rfl) (by omega) (by omega) (by omega) rfl (by decide) (by omega) (by omega) (by omega)
      rw [show jumpN 16 0 0 ⟨((4 : Nat) : Int), smR 0 s, []⟩ = (2, ⟨((4 : Nat) : Int), smR 0 s, []⟩) from rfl] at hst
      have HST := Lib.hid hst
      clear hst
      go_wp2_with fail
      refine HST.out.mono ?_
      rintro e w3 ⟨v', rfl, hf', h34, _⟩
      have y1 : w3.cell? ⟨cg + 1, 2, none⟩ = some (.int .u64 0) := hf'.fr.regD (j := 1) (by omega)
      have y2 : w3.cell? ⟨cg + 1, 3, none⟩ = some (.int .u64 s) := hf'.fr.regD (j := 2) (by omega)
      have HN3 := Lib.hid (HN2.out.then (HFR.out.trans h34.fr) (fun i hi e => by omega))
      clear hf' h34
      have hmul : N * (N + 1) ≤ 50 * 51 := Nat.mul_le_mul hN2 (by omega)
      obtain ⟨Pm, hPm⟩ : ∃ Pm, N * (N + 1) = Pm := ⟨_, rfl⟩
      rw [hPm] at hmul hsv
      have tn1 : IntKind.u64.wrap ((N : Int) + 1) = (N : Int) + 1 := IntWalk.u64_in _ (by omega)
      have tn2 : (N : Int) * ((N : Int) + 1) = (Pm : Int) := by rw [← hPm]; push_cast; rfl
      have tn3 : IntKind.u64.wrap (Pm : Int) = (Pm : Int) := IntWalk.u64_in _ (by omega)
      have tn4 : (Pm : Int).tdiv 2 = (s : Int) := by rw [hsv]; rfl
      have tn5 : ((s : Int) == (s : Int)) = true := by simp
      clear hPm
      go_wp2_with (go_at_call 12; refine (awake_any _).mono ?_; rintro e w4 ⟨rfl, hn4⟩)
      go_ret
      exact ⟨rfl, HN3.out.trans hn4⟩

end Go.Proofs.Ytngpcalgjaglmaa
