/- All of the document's objects; two lists that tell alike. -/
import Derived.Test.YtincfbgegoefgaaDoorObjM
import Derived.Test.YtincfbgegoefgaaDoorObjF
import Derived.Test.YtincfbgegoefgaaDoorObjG
import Derived.Test.YtincfbgegoefgaaDoorDocsB
import Derived.Laws.AppendOwn
import Derived.Deep.LoopGhost
namespace Go.Proofs.YtincfbgegoefgaaDoor
open Go.RowKit

theorem within_nat (v n : Int) (hn : 1 ≤ n) : ∃ k : Nat, v % n = (k : Int) ∧ (k : Int) < n := by
  have h1 := Int.emod_nonneg v (show n ≠ 0 by omega)
  have h2 := Int.emod_lt_of_pos v (show 0 < n by omega)
  exact ⟨(v % n).toNat, by omega, by omega⟩
/-- The places that are taken. -/
def live (l : List Row) : List Row := l.filter fun r => r.handle != 0
theorem told_live (l : List Row) : told l = (live l).map fun r => (r.handle, r.addr) := rfl
theorem live_snoc {l : List Row} {i : Nat} {r : Row} (h : l[i]? = some r) : live (l.take (i + 1)) = live (l.take i) ++ if r.handle = 0 then [] else [r] := by
  unfold live
  rw [List.take_add_one, h, Option.toList_some, List.filter_append]
  congr 1
  by_cases e : r.handle = 0 <;> simp [e]
theorem live_le (l : List Row) : (live l).length ≤ l.length := List.length_filter_le _ _

set_option maxRecDepth 100000 in
set_option maxHeartbeats 2000000 in
theorem rall_any (b lb tb : Nat) (l : List Row) (w : World) (hr : DocO w b lb tb l) :
    Calls Tryd.prog 15 #[.pointer (some ⟨b, 0, none⟩)] w fun e w' => ∃ v, e = .returned v ∧ w'.ownsRow w.heap.size 47 3 v (live l).length ((live l).flatMap oC) ∧ New w w' := by
  have c0 := hr.hd.cell 0 _ rfl
  have l1 := hr.hd.lt
  have hlen := hr.len
  have hrows := hr.rows
  have hrl := hr.rows.lt
  obtain ⟨n, hn⟩ : ∃ n, l.length = n := ⟨_, rfl⟩
  rw [hn] at c0 hlen
  have HROWS := Lib.hid hrows
  have HN := Lib.hid hn
  obtain ⟨i0, hi, hz0, hz1, hz2⟩ := info_parts objInfo
  clear hr hrows hn
  go_enter Tryd.func15, Tryd.ntmps15
  go_wp2_with fail
  go_loopg [3, 4] (n + 1) (fun g v i wr => ∃ k : Nat, k ≤ n ∧ g = n + 1 - k ∧ i = .int .i64 k ∧ wr.ownsRow w.heap.size 47 3 v (live (l.take k)).length ((live (l.take k)).flatMap oC) ∧ New w wr)
  case atStart => exact ⟨0, by omega, by omega, rfl, World.ownsRow_nil _ _ _ _, Fr.refl _ _⟩
  case round =>
    obtain ⟨k, hk, rfl, rfl, hown, hnw⟩ := hrel
    have d0 : wr.cell? ⟨b, 0, none⟩ = some (.slice (some ⟨lb, 0, none⟩) n n) := (hnw.cell l1 id 0).trans c0
    have lr : b < wr.heap.size := Nat.lt_of_lt_of_le l1 hnw.size
    have lg : lb < wr.heap.size := Nat.lt_of_lt_of_le hrl hnw.size
    by_cases hlt : k < n
    · obtain ⟨r, hrr⟩ : ∃ r, l[k]? = some r := ⟨l[k]'(by rw [HN.out]; exact hlt), by simp⟩
      have hst := live_snoc hrr
      have x0 : wr.cell? ⟨lb, k * 3, none⟩ = some (.int .u64 r.handle) := (hnw.cell hrl id _).trans (HROWS.out.row oC_len hrr 0 _ rfl)
      have x1 : wr.cell? ⟨lb, k * 3 + 1, none⟩ = some (.int .u64 r.addr) := (hnw.cell hrl id _).trans (HROWS.out.row oC_len hrr 1 _ rfl)
      have x2 : wr.cell? ⟨lb, k * 3 + 2, none⟩ = some (.int .i64 r.kind) := (hnw.cell hrl id _).trans (HROWS.out.row oC_len hrr 2 _ rfl)
      have q1 : (0 : Int) ≤ (k : Int) := by omega
      have q2 : (k : Int) < (n : Int) := by omega
      have hlk : (live (l.take k)).length ≤ k := Nat.le_trans (live_le _) (by rw [List.length_take]; omega)
      have HST := Lib.hid hst
      have HOW := Lib.hid hown
      have HNW := Lib.hid hnw
      clear hrr hst hown hnw
      by_cases h0 : r.handle = 0
      · have t1 : ((r.handle : Int) != 0) = false := by rw [h0]; rfl
        have HE := Lib.hid (show live (l.take (k + 1)) = live (l.take k) by rw [HST.out, if_pos h0, List.append_nil])
        clear h0
        go_wp2_with fail
        go_roundg (n + 1 - (k + 1))
        case measure => omega
        case rel => exact ⟨k + 1, by omega, rfl, by go_num, by rw [HE.out]; exact HOW.out, HNW.out⟩
      · have t1 : ((r.handle : Int) != 0) = true := by rw [bne_iff_ne]; omega
        have HE := Lib.hid (show live (l.take (k + 1)) = live (l.take k) ++ [r] by rw [HST.out, if_neg h0])
        clear h0
        have HAP := Lib.hid (show ∀ kk, u3.ownBlock = some kk → w.heap.size ≤ kk from fun kk e => (HOW.out.lt kk e).1)
        go_wp2_with (at_builtin; go_loud (refine wpList_append_own _ rfl (.tmp 23) (.tmp 31) 44 rfl w.heap.size 47 i0 _ 3 24 Tryd.underlying44 hi hz0 hz1 hz2 rfl (by decide) _ _ _ rfl (HOW.out.alloc _) ⟨wr.heap.size, 0, none⟩ 1 1 (oC r) rfl rfl (Arr.add (Arr.new _ _ _)) (by simp [oC, Value.oneCell']) (by unfold maxLen; omega) (by omega) (by have := HNW.out.size; simp; omega) ?_; intro v' w3 hown3 hgrow hnil; clear hnil; have f3 : Fr (fun kk => w.heap.size ≤ kk) wr w3 := (((Fr.refl _ wr).alloc _).grown hgrow (fun kk hkk _ => HAP.out kk hkk)); have HO3 := Lib.hid hown3; have HF3 := Lib.hid f3; clear hown3 hgrow f3))
        go_roundg (n + 1 - (k + 1))
        case measure => omega
        case rel => exact ⟨k + 1, by omega, rfl, by go_num, by rw [HE.out, List.length_append, List.flatMap_append]; simpa using HO3.out, HNW.out.then HF3.out (fun i hi e => by omega)⟩
    · obtain rfl : n = k := by omega
      rw [List.take_of_length_le (by rw [HN.out]; exact Nat.le_refl _)] at hown
      have HOW := Lib.hid hown
      have HNW := Lib.hid hnw
      clear hown hnw
      go_wp2
      go_ret
      exact ⟨_, rfl, HOW.out, HNW.out⟩

set_option maxRecDepth 100000 in
set_option maxHeartbeats 2000000 in
theorem sameO_any (l : List Row) (v1 v2 : Value) (b1 b2 : Nat) (w : World) (h1 : w.ownsRow b1 87 2 v1 (live l).length ((told l).flatMap pairCells)) (h2 : w.ownsRow b2 47 3 v2 (live l).length ((live l).flatMap oC)) (hl : l.length ≤ 64) :
    Calls Tryd.prog 23 #[v1, v2] w fun e w' => e = .returned (.bool true) ∧ New w w' := by
  obtain ⟨ao, ca, rfl, _⟩ := owned_form h1
  obtain ⟨bo, cb, rfl, _⟩ := owned_form h2
  have hcap1 := doc_cap h1
  have hcap2 := doc_cap h2
  have hle := live_le l
  have hnm : ∀ (k : Nat) (r : Row), (live l)[k]? = some r → (told l)[k]? = some (r.handle, r.addr) := fun k r h => by rw [told_live, List.getElem?_map, h]; rfl
  have hA := fun (k : Nat) (r : Row) (h : (live l)[k]? = some r) => flat_at pairCells 2 pairCells_len (L := told l) (A := ao) (c := ca) (N := (live l).length) h1 (hnm k r h) (by omega)
  have hB := fun (k : Nat) (r : Row) (h : (live l)[k]? = some r) => flat_at oC 3 oC_len h2 h (by omega)
  obtain ⟨n, hn⟩ : ∃ n, (live l).length = n := ⟨_, rfl⟩
  rw [hn] at hle hcap1 hcap2 ⊢
  have HA := Lib.hid hA
  have HB := Lib.hid hB
  have HN := Lib.hid hn
  clear h1 h2 hnm hA hB hn
  have t0 : ((n : Int) != (n : Int)) = false := by simp
  go_enter Tryd.func23, Tryd.ntmps23
  go_wp2_with fail
  go_loopw [5] (fun i wr => ∃ k : Nat, k ≤ n ∧ i = .int .i64 k ∧ New w wr) (fun i _ => n - (intOf i).toNat)
  case atStart => exact ⟨0, by omega, rfl, Fr.refl _ _⟩
  case round =>
    obtain ⟨k, hk, rfl, hnw⟩ := hrel
    have HNW := Lib.hid hnw
    by_cases hlt : k < n
    · obtain ⟨r, hr⟩ : ∃ r, (live l)[k]? = some r := ⟨(live l)[k]'(by rw [HN.out]; exact hlt), by simp⟩
      obtain ⟨g1, rfl, hg1, e1⟩ := HA.out k r hr
      obtain ⟨g2, rfl, hg2, e2⟩ := HB.out k r hr
      have x0 : wr.cell? ⟨g1, k * 2, none⟩ = some (.int .u64 r.handle) := (hnw.cell hg1 id _).trans (e1 0 _ rfl)
      have x1 : wr.cell? ⟨g1, k * 2 + 1, none⟩ = some (.int .u64 r.addr) := (hnw.cell hg1 id _).trans (e1 1 _ rfl)
      have y0 : wr.cell? ⟨g2, k * 3, none⟩ = some (.int .u64 r.handle) := (hnw.cell hg2 id _).trans (e2 0 _ rfl)
      have y1 : wr.cell? ⟨g2, k * 3 + 1, none⟩ = some (.int .u64 r.addr) := (hnw.cell hg2 id _).trans (e2 1 _ rfl)
      have q1 : (0 : Int) ≤ (k : Int) := by omega
      have q2 : (k : Int) < (n : Int) := by omega
      have t1 : ((r.handle : Int) != (r.handle : Int)) = false := by simp
      have t2 : ((r.addr : Int) != (r.addr : Int)) = false := by simp
      clear hr hnw e1 e2
      go_wp2_with fail
      go_quiet (fail)
      go_wp2
      go_roundw
      case rel => exact ⟨k + 1, by omega, by go_num, HNW.out.drewN _⟩
      case measure => simp [intOf]; omega
    · clear hnw
      go_wp2
      go_ret
      exact ⟨rfl, HNW.out⟩

end Go.Proofs.YtincfbgegoefgaaDoor
