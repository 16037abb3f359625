/- A thread is born; all threads; two lists of threads that are alike. -/
import Derived.Test.YtpfkfajgbaakoaaDoorTabE
import Derived.Laws.AppendOwn
import Derived.Laws.StructEq
import Derived.Deep.LoopGhost
namespace Go.Proofs.YtpfkfajgbaakoaaDoor
open Go.RowKit

theorem live_snoc {l : List TR} {i : Nat} {r : TR} (h : l[i]? = some r) : live (l.take (i + 1)) = live (l.take i) ++ if r.taken = true then [r] else [] := by
  unfold live
  rw [List.take_add_one, h, Option.toList_some, List.filter_append]
  congr 1
  by_cases e : r.taken = true <;> simp [e]
theorem live_le (l : List TR) : (live l).length ≤ l.length := List.length_filter_le _ _
theorem thInfo : (Tryd.prog.info? 48).map (fun i => (i.zero, i.size, i.bytes)) = some (some (.agg #[.int .u64 0, .int .i64 0, .int .u64 0, .int .u64 0, .int .u64 0, .bool false, .bool false]), 7, 48) := by kernel_rfl

set_option maxRecDepth 100000 in
set_option maxHeartbeats 2000000 in
theorem pall_any (b rb : Nat) (l : List TR) (w : World) (hr : PRep w b rb l) :
    Calls Tryd.prog 13 #[.pointer (some ⟨b, 0, none⟩)] w fun e w' => ∃ v, e = .returned v ∧ w'.ownsRow w.heap.size 48 7 v (live l).length ((live l).flatMap tC) ∧ New w w' := by
  have c0 := hr.hd.cell 0 _ rfl
  have l1 := hr.hd.lt
  have hlen := hr.len
  have hrows := hr.rows
  have hrl := hr.rows.lt
  obtain ⟨n, hn⟩ : ∃ n, l.length = n := ⟨_, rfl⟩
  rw [hn] at c0 hlen
  have HROWS := Lib.hid hrows
  have HN := Lib.hid hn
  obtain ⟨i0, hi, hz0, hz1, hz2⟩ := info_parts thInfo
  clear hr hrows hn
  go_enter Tryd.func13, Tryd.ntmps13
  go_wp2_with fail
  go_loopg [3, 10] (n + 1) (fun g v i wr => ∃ k : Nat, k ≤ n ∧ g = n + 1 - k ∧ i = .int .i64 k ∧ wr.ownsRow w.heap.size 48 7 v (live (l.take k)).length ((live (l.take k)).flatMap tC) ∧ New w wr)
  case atStart => exact ⟨0, by omega, by omega, rfl, World.ownsRow_nil _ _ _ _, Fr.refl _ _⟩
  case round =>
    obtain ⟨k, hk, rfl, rfl, hown, hnw⟩ := hrel
    have d0 : wr.cell? ⟨b, 0, none⟩ = some (.slice (some ⟨rb, 0, none⟩) n n) := (hnw.cell l1 id 0).trans c0
    have lr : b < wr.heap.size := Nat.lt_of_lt_of_le l1 hnw.size
    have lg : rb < wr.heap.size := Nat.lt_of_lt_of_le hrl hnw.size
    by_cases hlt : k < n
    · obtain ⟨r, hrr⟩ : ∃ r, l[k]? = some r := ⟨l[k]'(by rw [HN.out]; exact hlt), by simp⟩
      have hst := live_snoc hrr
      have xt : wr.cell? ⟨rb, k * 10 + 1, none⟩ = some (.bool r.taken) := (hnw.cell hrl id _).trans (HROWS.out.row pC_len hrr 1 _ rfl)
      have x0 : wr.cell? ⟨rb, k * 10 + 3, none⟩ = some (.int .u64 r.id) := (hnw.cell hrl id _).trans (HROWS.out.row pC_len hrr 3 _ rfl)
      have x1 : wr.cell? ⟨rb, k * 10 + 4, none⟩ = some (.int .i64 r.state) := (hnw.cell hrl id _).trans (HROWS.out.row pC_len hrr 4 _ rfl)
      have x2 : wr.cell? ⟨rb, k * 10 + 5, none⟩ = some (.int .u64 r.home) := (hnw.cell hrl id _).trans (HROWS.out.row pC_len hrr 5 _ rfl)
      have x3 : wr.cell? ⟨rb, k * 10 + 6, none⟩ = some (.int .u64 r.value) := (hnw.cell hrl id _).trans (HROWS.out.row pC_len hrr 6 _ rfl)
      have x4 : wr.cell? ⟨rb, k * 10 + 7, none⟩ = some (.int .u64 r.joiner) := (hnw.cell hrl id _).trans (HROWS.out.row pC_len hrr 7 _ rfl)
      have x5 : wr.cell? ⟨rb, k * 10 + 8, none⟩ = some (.bool r.loose) := (hnw.cell hrl id _).trans (HROWS.out.row pC_len hrr 8 _ rfl)
      have x6 : wr.cell? ⟨rb, k * 10 + 9, none⟩ = some (.bool r.stepping) := (hnw.cell hrl id _).trans (HROWS.out.row pC_len hrr 9 _ rfl)
      have q1 : (0 : Int) ≤ (k : Int) := by omega
      have q2 : (k : Int) < (n : Int) := by omega
      have hlk : (live (l.take k)).length ≤ k := Nat.le_trans (live_le _) (by rw [List.length_take]; omega)
      have HST := Lib.hid hst
      have HOW := Lib.hid hown
      have HNW := Lib.hid hnw
      clear hrr hst hown hnw
      cases ht : r.taken with
      | false =>
        rw [ht] at xt
        have HE := Lib.hid (show live (l.take (k + 1)) = live (l.take k) by rw [HST.out, if_neg (by simp [ht]), List.append_nil])
        clear ht
        go_wp2_with fail
        go_roundg (n + 1 - (k + 1))
        case measure => omega
        case rel => exact ⟨k + 1, by omega, rfl, by go_num, by rw [HE.out]; exact HOW.out, HNW.out⟩
      | true =>
        rw [ht] at xt
        have HE := Lib.hid (show live (l.take (k + 1)) = live (l.take k) ++ [r] by rw [HST.out, if_pos ht])
        clear ht
        have HAP := Lib.hid (show ∀ kk, u3.ownBlock = some kk → w.heap.size ≤ kk from fun kk e => (HOW.out.lt kk e).1)
        go_wp2_with (at_builtin; go_loud (refine wpList_append_own _ rfl (.tmp 21) (.tmp 30) 32 rfl w.heap.size 48 i0 _ 7 48 Tryd.underlying32 hi hz0 hz1 hz2 rfl (by decide) _ _ _ rfl (HOW.out.alloc _) ⟨wr.heap.size, 0, none⟩ 1 1 (tC r) rfl rfl (Arr.add (Arr.new _ _ _)) (by simp [tC, Value.oneCell']) (by unfold maxLen; omega) (by omega) (by have := HNW.out.size; simp; omega) ?_; intro v' w3 hown3 hgrow hnil; clear hnil; have f3 : Fr (fun kk => w.heap.size ≤ kk) wr w3 := (((Fr.refl _ wr).alloc _).grown hgrow (fun kk hkk _ => HAP.out kk hkk)); have HO3 := Lib.hid hown3; have HF3 := Lib.hid f3; clear hown3 hgrow f3))
        go_roundg (n + 1 - (k + 1))
        case measure => omega
        case rel => exact ⟨k + 1, by omega, rfl, by go_num, by rw [HE.out, List.length_append, List.flatMap_append]; simpa using HO3.out, HNW.out.then HF3.out (fun i hi e => by omega)⟩
    · obtain rfl : n = k := by omega
      rw [List.take_of_length_le (by rw [HN.out]; exact Nat.le_refl _)] at hown
      have HOW := Lib.hid hown
      have HNW := Lib.hid hnw
      clear hown hnw
      go_wp2
      go_ret
      exact ⟨_, rfl, HOW.out, HNW.out⟩

set_option maxRecDepth 100000 in
set_option maxHeartbeats 2000000 in
theorem dall_any (b rb : Nat) (l : List TR) (w : World) (hr : DRep w b rb l) (hpl : Placed l) :
    Calls Tryd.prog 28 #[.pointer (some ⟨b, 0, none⟩)] w fun e w' => ∃ v, e = .returned v ∧ w'.ownsRow w.heap.size 48 7 v (live l).length ((live l).flatMap tC) ∧ New w w' := by
  have c0 := hr.hd.cell 0 _ rfl
  have l1 := hr.hd.lt
  have hlen := hr.len
  have hrows := hr.rows
  have hrl := hr.rows.lt
  obtain ⟨n, hn⟩ : ∃ n, l.length = n := ⟨_, rfl⟩
  rw [hn] at c0 hlen
  have HROWS := Lib.hid hrows
  have HN := Lib.hid hn
  have HPL := Lib.hid hpl
  obtain ⟨i0, hi, hz0, hz1, hz2⟩ := info_parts thInfo
  clear hr hrows hn hpl
  go_enter Tryd.func28, Tryd.ntmps28
  go_wp2_with fail
  go_loopg [3, 4] (n + 1) (fun g v i wr => ∃ k : Nat, k ≤ n ∧ g = n + 1 - k ∧ i = .int .i64 k ∧ wr.ownsRow w.heap.size 48 7 v (live (l.take k)).length ((live (l.take k)).flatMap tC) ∧ New w wr)
  case atStart => exact ⟨0, by omega, by omega, rfl, World.ownsRow_nil _ _ _ _, Fr.refl _ _⟩
  case round =>
    obtain ⟨k, hk, rfl, rfl, hown, hnw⟩ := hrel
    have d0 : wr.cell? ⟨b, 0, none⟩ = some (.slice (some ⟨rb, 0, none⟩) n n) := (hnw.cell l1 id 0).trans c0
    have lr : b < wr.heap.size := Nat.lt_of_lt_of_le l1 hnw.size
    have lg : rb < wr.heap.size := Nat.lt_of_lt_of_le hrl hnw.size
    by_cases hlt : k < n
    · obtain ⟨r, hrr⟩ : ∃ r, l[k]? = some r := ⟨l[k]'(by rw [HN.out]; exact hlt), by simp⟩
      have hst := live_snoc hrr
      have hpr := HPL.out k r hrr
      have x0 : wr.cell? ⟨rb, k * 9, none⟩ = some (.int .u64 r.id) := (hnw.cell hrl id _).trans (HROWS.out.row dC_len hrr 0 _ rfl)
      have x1 : wr.cell? ⟨rb, k * 9 + 1, none⟩ = some (.int .i64 r.state) := (hnw.cell hrl id _).trans (HROWS.out.row dC_len hrr 1 _ rfl)
      have x2 : wr.cell? ⟨rb, k * 9 + 2, none⟩ = some (.int .u64 r.home) := (hnw.cell hrl id _).trans (HROWS.out.row dC_len hrr 2 _ rfl)
      have x3 : wr.cell? ⟨rb, k * 9 + 3, none⟩ = some (.int .u64 r.value) := (hnw.cell hrl id _).trans (HROWS.out.row dC_len hrr 3 _ rfl)
      have x4 : wr.cell? ⟨rb, k * 9 + 4, none⟩ = some (.int .u64 r.joiner) := (hnw.cell hrl id _).trans (HROWS.out.row dC_len hrr 4 _ rfl)
      have x5 : wr.cell? ⟨rb, k * 9 + 5, none⟩ = some (.bool r.loose) := (hnw.cell hrl id _).trans (HROWS.out.row dC_len hrr 5 _ rfl)
      have x6 : wr.cell? ⟨rb, k * 9 + 6, none⟩ = some (.bool r.stepping) := (hnw.cell hrl id _).trans (HROWS.out.row dC_len hrr 6 _ rfl)
      have q1 : (0 : Int) ≤ (k : Int) := by omega
      have q2 : (k : Int) < (n : Int) := by omega
      have hlk : (live (l.take k)).length ≤ k := Nat.le_trans (live_le _) (by rw [List.length_take]; omega)
      have HST := Lib.hid hst
      have HOW := Lib.hid hown
      have HNW := Lib.hid hnw
      clear hrr hst hown hnw
      cases ht : r.taken with
      | false =>
        have t1 : ((r.id : Int) != 0) = false := by rw [hpr.2 ht]; rfl
        have HE := Lib.hid (show live (l.take (k + 1)) = live (l.take k) by rw [HST.out, if_neg (by simp [ht]), List.append_nil])
        clear ht hpr
        go_wp2_with fail
        go_roundg (n + 1 - (k + 1))
        case measure => omega
        case rel => exact ⟨k + 1, by omega, rfl, by go_num, by rw [HE.out]; exact HOW.out, HNW.out⟩
      | true =>
        have t1 : ((r.id : Int) != 0) = true := by have := (hpr.1 ht); rw [bne_iff_ne]; omega
        have HE := Lib.hid (show live (l.take (k + 1)) = live (l.take k) ++ [r] by rw [HST.out, if_pos ht])
        clear ht hpr
        have HAP := Lib.hid (show ∀ kk, u3.ownBlock = some kk → w.heap.size ≤ kk from fun kk e => (HOW.out.lt kk e).1)
        go_wp2_with (at_builtin; go_loud (refine wpList_append_own _ rfl (.tmp 24) (.tmp 33) 32 rfl w.heap.size 48 i0 _ 7 48 Tryd.underlying32 hi hz0 hz1 hz2 rfl (by decide) _ _ _ rfl (HOW.out.alloc _) ⟨wr.heap.size, 0, none⟩ 1 1 (tC r) rfl rfl (Arr.add (Arr.new _ _ _)) (by simp [tC, Value.oneCell']) (by unfold maxLen; omega) (by omega) (by have := HNW.out.size; simp; omega) ?_; intro v' w3 hown3 hgrow hnil; clear hnil; have f3 : Fr (fun kk => w.heap.size ≤ kk) wr w3 := (((Fr.refl _ wr).alloc _).grown hgrow (fun kk hkk _ => HAP.out kk hkk)); have HO3 := Lib.hid hown3; have HF3 := Lib.hid f3; clear hown3 hgrow f3))
        go_roundg (n + 1 - (k + 1))
        case measure => omega
        case rel => exact ⟨k + 1, by omega, rfl, by go_num, by rw [HE.out, List.length_append, List.flatMap_append]; simpa using HO3.out, HNW.out.then HF3.out (fun i hi e => by omega)⟩
    · obtain rfl : n = k := by omega
      rw [List.take_of_length_le (by rw [HN.out]; exact Nat.le_refl _)] at hown
      have HOW := Lib.hid hown
      have HNW := Lib.hid hnw
      clear hown hnw
      go_wp2
      go_ret
      exact ⟨_, rfl, HOW.out, HNW.out⟩

/-- A thread as a value. -/
abbrev thV (a : Int) (s : Int) (h v j : Int) (x y : Bool) : Value := .agg #[.int .u64 a, .int .i64 s, .int .u64 h, .int .u64 v, .int .u64 j, .bool x, .bool y]
theorem th_self (a : Int) (s : Int) (h v j : Int) (x y : Bool) (w : World) : (Op.equalIn 10000 48 (thV a s h v j x y) (thV a s h v j x y)).run Tryd.prog w = .ok true w := by
  have u3 := Tryd.underlying3
  have u4 := Tryd.underlying34
  have u5 := Tryd.underlying4
  have a3 := Tryd.isAgg3
  have a4 := Tryd.isAgg34
  have a5 := Tryd.isAgg4
  have z3 := Tryd.sizeOf3
  have z4 := Tryd.sizeOf34
  have z5 := Tryd.sizeOf4
  have hS : Tryd.prog.underlying 48 = some (.struct (Tryd.prog.fieldsOf 48)) := by kernel_rfl
  have hp : Tryd.prog.stoodInHeld 48 = false := by kernel_rfl
  rw [show (10000 : Nat) = 9999 + 1 from rfl, run_equalIn_agg w 9999 48 _ _ hS hp]
  simp only [Program.fieldsOf, Tryd.underlying48]
  go_simp
theorem th_neq (a : Int) (s : Int) (h v j : Int) (x y : Bool) (w : World) : (binOp .neq 48 (thV a s h v j x y) (thV a s h v j x y)).run Tryd.prog w = .ok (.bool false) w := by
  rw [run_neq_struct, th_self]; rfl

set_option maxRecDepth 100000 in
set_option maxHeartbeats 2000000 in
theorem sameT_any (l : List TR) (v1 v2 : Value) (b1 b2 : Nat) (w : World) (h1 : w.ownsRow b1 48 7 v1 (live l).length ((live l).flatMap tC)) (h2 : w.ownsRow b2 48 7 v2 (live l).length ((live l).flatMap tC)) (hl : l.length ≤ 64) :
    Calls Tryd.prog 27 #[v1, v2] w fun e w' => e = .returned (.bool true) ∧ New w w' := by
  obtain ⟨ao, ca, rfl, _⟩ := owned_form h1
  obtain ⟨bo, cb, rfl, _⟩ := owned_form h2
  have hcap1 := doc_cap h1
  have hcap2 := doc_cap h2
  have hle := live_le l
  have hA := fun (k : Nat) (r : TR) (h : (live l)[k]? = some r) => flat_at tC 7 tC_len h1 h (by omega)
  have hB := fun (k : Nat) (r : TR) (h : (live l)[k]? = some r) => flat_at tC 7 tC_len h2 h (by omega)
  obtain ⟨n, hn⟩ : ∃ n, (live l).length = n := ⟨_, rfl⟩
  rw [hn] at hle hcap1 hcap2 ⊢
  have HA := Lib.hid hA
  have HB := Lib.hid hB
  have HN := Lib.hid hn
  clear h1 h2 hA hB hn
  have t0 : ((n : Int) != (n : Int)) = false := by simp
  go_enter Tryd.func27, Tryd.ntmps27
  go_wp2_with fail
  go_loopw [5] (fun i wr => ∃ k : Nat, k ≤ n ∧ i = .int .i64 k ∧ New w wr) (fun i _ => n - (intOf i).toNat)
  case atStart => exact ⟨0, by omega, rfl, Fr.refl _ _⟩
  case round =>
    obtain ⟨k, hk, rfl, hnw⟩ := hrel
    have HNW := Lib.hid hnw
    by_cases hlt : k < n
    · obtain ⟨r, hr⟩ : ∃ r, (live l)[k]? = some r := ⟨(live l)[k]'(by rw [HN.out]; exact hlt), by simp⟩
      obtain ⟨g1, rfl, hg1, e1⟩ := HA.out k r hr
      obtain ⟨g2, rfl, hg2, e2⟩ := HB.out k r hr
      have x0 : wr.cell? ⟨g1, k * 7, none⟩ = some (.int .u64 r.id) := (hnw.cell hg1 id _).trans (e1 0 _ rfl)
      have x1 : wr.cell? ⟨g1, k * 7 + 1, none⟩ = some (.int .i64 r.state) := (hnw.cell hg1 id _).trans (e1 1 _ rfl)
      have x2 : wr.cell? ⟨g1, k * 7 + 2, none⟩ = some (.int .u64 r.home) := (hnw.cell hg1 id _).trans (e1 2 _ rfl)
      have x3 : wr.cell? ⟨g1, k * 7 + 3, none⟩ = some (.int .u64 r.value) := (hnw.cell hg1 id _).trans (e1 3 _ rfl)
      have x4 : wr.cell? ⟨g1, k * 7 + 4, none⟩ = some (.int .u64 r.joiner) := (hnw.cell hg1 id _).trans (e1 4 _ rfl)
      have x5 : wr.cell? ⟨g1, k * 7 + 5, none⟩ = some (.bool r.loose) := (hnw.cell hg1 id _).trans (e1 5 _ rfl)
      have x6 : wr.cell? ⟨g1, k * 7 + 6, none⟩ = some (.bool r.stepping) := (hnw.cell hg1 id _).trans (e1 6 _ rfl)
      have y0 : wr.cell? ⟨g2, k * 7, none⟩ = some (.int .u64 r.id) := (hnw.cell hg2 id _).trans (e2 0 _ rfl)
      have y1 : wr.cell? ⟨g2, k * 7 + 1, none⟩ = some (.int .i64 r.state) := (hnw.cell hg2 id _).trans (e2 1 _ rfl)
      have y2 : wr.cell? ⟨g2, k * 7 + 2, none⟩ = some (.int .u64 r.home) := (hnw.cell hg2 id _).trans (e2 2 _ rfl)
      have y3 : wr.cell? ⟨g2, k * 7 + 3, none⟩ = some (.int .u64 r.value) := (hnw.cell hg2 id _).trans (e2 3 _ rfl)
      have y4 : wr.cell? ⟨g2, k * 7 + 4, none⟩ = some (.int .u64 r.joiner) := (hnw.cell hg2 id _).trans (e2 4 _ rfl)
      have y5 : wr.cell? ⟨g2, k * 7 + 5, none⟩ = some (.bool r.loose) := (hnw.cell hg2 id _).trans (e2 5 _ rfl)
      have y6 : wr.cell? ⟨g2, k * 7 + 6, none⟩ = some (.bool r.stepping) := (hnw.cell hg2 id _).trans (e2 6 _ rfl)
      have q1 : (0 : Int) ≤ (k : Int) := by omega
      have q2 : (k : Int) < (n : Int) := by omega
      have hne := fun w => th_neq r.id r.state r.home r.value r.joiner r.loose r.stepping w
      have hse := fun w => th_self r.id r.state r.home r.value r.joiner r.loose r.stepping w
      have hgd : Tryd.prog.eqGuardType Tryd.prog.depth 48 = false := by kernel_rfl
      have hgd2 := fun w x y xs ys => run_eqGuard_agg (P := Tryd.prog) w .neq 48 x y xs ys hgd
      clear hr hnw e1 e2
      go_wp2
      go_region
      go_wp2
      go_roundw
      case rel => exact ⟨k + 1, by omega, by go_num, HNW.out.drew⟩
      case measure => simp [intOf]; omega
    · clear hnw
      go_wp2
      go_ret
      exact ⟨rfl, HNW.out⟩

end Go.Proofs.YtpfkfajgbaakoaaDoor
