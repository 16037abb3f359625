/- The queues: errors, who is in a bucket; a slice spoilt. -/
import Derived.Test.YteeckkkbmlkkiaaDoorWaitM
import Derived.Test.YteeckkkbmlkkiaaDoorSays
namespace Go.Proofs.YteeckkkbmlkkiaaDoor
open Go.RowKit Go.Maps

abbrev waitL : ByteArray := ⟨#[119, 97, 105, 116, 113]⟩
theorem u64Info : (Tryd.prog.info? 36).map (fun i => (i.zero, i.size, i.bytes)) = some (some (.int .u64 0), 1, 8) := by kernel_rfl
def u64c (l : List Nat) : List Value := l.map fun (x : Nat) => Value.int .u64 (x : Int)
theorem u64c_snoc (l : List Nat) (x : Nat) : u64c l ++ [.int .u64 x] = u64c (l ++ [x]) := by simp [u64c]
theorem u64c_get {l : List Nat} {j x : Nat} (h : l[j]? = some x) : (u64c l)[j]? = some (.int .u64 x) := by simp [u64c, h]

set_option maxRecDepth 100000 in
set_option maxHeartbeats 400000 in
theorem fail_any (k : Int) (w : World) (h1 : 1 ≤ k) (h2 : k ≤ 10) :
    Calls Tryd.prog 21 #[.iface 30 (.int .i64 k)] w fun e w' => ∃ eb, e = .returned (.iface 64 (.pointer (some ⟨eb, 0, none⟩))) ∧ Says w' waitL (.iface 64 (.pointer (some ⟨eb, 0, none⟩))) (some (0, k)) ∧ New w w' := by
  go_enter Tryd.func21, Tryd.ntmps21
  go_wp2
  go_ret
  exact ⟨_, rfl, ⟨⟨_, _, rfl, block_alloc_new _ _, rfl⟩, h1, h2⟩, (Fr.refl _ _).alloc _⟩

set_option maxRecDepth 100000 in
set_option maxHeartbeats 400000 in
theorem new_bad (n : Int) (w : World) (h : n < 1 ∨ 64 < n) :
    Calls Tryd.prog 6 #[.int .i64 n] w fun e w' => ∃ eb, e = .returned (.tuple #[.pointer none, .iface 64 (.pointer (some ⟨eb, 0, none⟩))]) ∧ Says w' waitL (.iface 64 (.pointer (some ⟨eb, 0, none⟩))) (some (0, 1)) ∧ New w w' := by
  rcases h with h | h
  · go_enter Tryd.func6, Tryd.ntmps6
    go_wp2_with fail
    refine (fail_any 1 _ (by omega) (by omega)).mono ?_
    rintro e w1 ⟨eb, rfl, he, hn⟩
    have HE := Lib.hid he
    have HN := Lib.hid hn
    clear he hn
    go_wp2
    go_ret2
    exact ⟨eb, rfl, HE.out, HN.out⟩
  · have h' : ¬ n < 1 := by omega
    go_enter Tryd.func6, Tryd.ntmps6
    go_wp2_with fail
    refine (fail_any 1 _ (by omega) (by omega)).mono ?_
    rintro e w1 ⟨eb, rfl, he, hn⟩
    have HE := Lib.hid he
    have HN := Lib.hid hn
    clear he hn
    go_wp2
    go_ret2
    exact ⟨eb, rfl, HE.out, HN.out⟩

def putErr (L : List Sl) (u : Nat) : Option (Int × Int) := if u = 0 then some (0, 1) else if hasId L u then some (0, 8) else none

set_option maxRecDepth 100000 in
set_option maxHeartbeats 1000000 in
theorem put_no (qb lb mb n : Nat) (L : List Sl) (u a m : Nat) (w : World) (h : QRep w qb lb mb n L) (hi : u < 18446744073709551616) (he : putErr L u ≠ none) :
    Calls Tryd.prog 15 #[.pointer (some ⟨qb, 0, none⟩), .int .u64 u, .int .u64 a, .int .u64 m] w fun e w' => ∃ v, e = .returned v ∧ v ≠ .nilIface ∧ Says w' waitL v (putErr L u) ∧ New w w' := by
  have c1 := h.hd.cell 1 _ rfl
  have l1 := h.hd.lt
  by_cases h0 : u = 0
  · subst h0
    rw [show putErr L 0 = some (0, 1) from rfl]
    rw [show (((0 : Nat)) : Int) = 0 from rfl]
    clear h he
    go_enter Tryd.func15, Tryd.ntmps15
    go_wp2_with fail
    refine (fail_any 1 _ (by omega) (by omega)).mono ?_
    rintro e w1 ⟨eb, rfl, he, hn⟩
    have HE := Lib.hid he
    have HN := Lib.hid hn
    clear he hn
    go_wp2
    go_ret
    exact ⟨_, rfl, (fun x => by cases x), HE.out, HN.out⟩
  · have hid : hasId L u = true := by
      unfold putErr at he; rw [if_neg h0] at he
      by_cases e : hasId L u = true
      · exact e
      · rw [if_neg e] at he; exact absurd rfl he
    obtain ⟨s, hs, rfl⟩ := hasId_iff.1 hid
    have t0 : ((s.id : Int) == 0) = false := by rw [beq_eq_false_iff_ne]; omega
    have hlook := h.map.look1 keyInt Tryd.underlying57 (zeroP w) (wf_nat hi)
    rw [byOf_of h.once hs, Option.getD_some] at hlook
    rw [show putErr L s.id = some (0, 8) by unfold putErr; rw [if_neg h0, if_pos hid]]
    clear h he hid h0
    go_enter Tryd.func15, Tryd.ntmps15
    go_wp2_with fail
    refine (fail_any 8 _ (by omega) (by omega)).mono ?_
    rintro e w1 ⟨eb, rfl, he, hn⟩
    have HE := Lib.hid he
    have HN := Lib.hid hn
    clear he hn
    go_wp2
    go_ret
    exact ⟨_, rfl, (fun x => by cases x), HE.out, HN.out⟩

set_option maxRecDepth 100000 in
set_option maxHeartbeats 1000000 in
theorem bucket_no (qb lb mb n : Nat) (L : List Sl) (b : Int) (w : World) (h : QRep w qb lb mb n L) (hb : b < 0 ∨ n ≤ b) :
    Calls Tryd.prog 11 #[.pointer (some ⟨qb, 0, none⟩), .int .i64 b] w fun e w' => e = .returned (.slice none 0 0) ∧ New w w' := by
  have c0 := h.hd.cell 0 _ rfl
  have l1 := h.hd.lt
  clear h
  rcases hb with hb | hb
  · go_enter Tryd.func11, Tryd.ntmps11
    go_wp2
    go_ret
    exact ⟨rfl, Fr.refl _ _⟩
  · have h' : ¬ b < 0 := by omega
    go_enter Tryd.func11, Tryd.ntmps11
    go_wp2
    go_ret
    exact ⟨rfl, Fr.refl _ _⟩

set_option maxRecDepth 100000 in
set_option maxHeartbeats 2000000 in
theorem bucket_list (qb lb mb n : Nat) (L : List Sl) (b : Nat) (w : World) (h : QRep w qb lb mb n L) (hb : b < n) :
    Calls Tryd.prog 11 #[.pointer (some ⟨qb, 0, none⟩), .int .i64 b] w fun e w' => ∃ v, e = .returned v ∧ w'.ownsRow w.heap.size 36 1 v (inB (bucketN · n) L b).length (u64c ((inB (bucketN · n) L b).map Sl.id)) ∧ New w w' := by
  have c0 := h.hd.cell 0 _ rfl
  have l1 := h.hd.lt
  have hq := h.qs b hb
  have hlb := h.lbf.1
  have hfew := h.few
  have hlk := h.links b
  have hll : (inB (bucketN · n) L b).length ≤ 1000000 := Nat.le_trans (List.length_filter_le _ _) h.few.2.2
  obtain ⟨B, hB⟩ : ∃ B, inB (bucketN · n) L b = B := ⟨_, rfl⟩
  rw [hB] at hq hlk hll ⊢
  have cf := hq.1
  have hhead : B.head? = B[0]? := by cases B <;> rfl
  rw [hhead] at cf
  have HLK := Lib.hid hlk
  have q0 : (0 : Int) ≤ (b : Int) := by omega
  have q1 : (b : Int) < (n : Int) := by omega
  have q2 : ¬ ((n : Int) ≤ (b : Int)) := by omega
  have t1 : decide (n ≤ b) = false := by simp; omega
  obtain ⟨i0, hi, hz0, hz1, hz2⟩ := info_parts u64Info
  clear hlk hB hhead hq h
  go_enter Tryd.func11, Tryd.ntmps11
  go_wp2_with fail
  go_loopg [5, 6] (B.length + 1) (fun g v p wr => ∃ k : Nat, k ≤ B.length ∧ g = B.length + 1 - k ∧ p = ptrO B[k]? ∧ wr.ownsRow w.heap.size 36 1 v k (u64c ((B.take k).map Sl.id)) ∧ New w wr)
  case atStart => exact ⟨0, by omega, by omega, rfl, World.ownsRow_nil _ _ _ _, Fr.refl _ _⟩
  case round =>
    obtain ⟨k, hk, rfl, rfl, hown, hn⟩ := hrel
    have HN := Lib.hid hn
    have HO := Lib.hid hown
    by_cases hlt : k < B.length
    · obtain ⟨s, hs⟩ : ∃ s, B[k]? = some s := ⟨B[k], by simp⟩
      have hblk := HLK.out.keep hn (fun _ _ => id) k s hs
      have x0 := cell_of_block hblk 0
      have x4 := cell_of_block hblk 4
      rw [show (slCells s (prevOf B k) B[k + 1]?)[0]? = some (.int .u64 s.id) from rfl] at x0
      rw [show (slCells s (prevOf B k) B[k + 1]?)[4]? = some (ptrO B[k + 1]?) from rfl] at x4
      have lb1 := lt_of_block hblk
      have hwl := hn.size
      have hst : (B.take (k + 1)).map Sl.id = (B.take k).map Sl.id ++ [s.id] := by rw [List.take_add_one, hs]; simp
      have HST := Lib.hid hst
      rw [hs, show ptrO (some s) = .pointer (some ⟨s.blk, 0, none⟩) from rfl]
      -- the link is no cell of the row that grows
      have hap : ∀ kk, u5.ownBlock = some kk → kk ≠ s.blk := by
        intro kk hkk e
        have h2 := hown.2
        rcases h2 with ⟨rfl, _⟩ | ⟨g, cap, cur, rfl, _, hg, _⟩
        · cases hkk
        · have : g = s.blk := by simp [Value.ownBlock] at hkk; omega
          subst this
          rw [hg] at hblk
          rw [Option.some.injEq, Obj.cells.injEq] at hblk
          exact absurd hblk.2.1 (by decide)
      have HB := Lib.hid hblk
      have HAP := Lib.hid hap
      clear hn hown hs hst hblk hap
      go_wp2_with (at_builtin; go_loud (refine wpList_append_own _ rfl (.tmp 32) (.tmp 37) 33 rfl w.heap.size 36 i0 _ 1 8 Tryd.underlying33 hi hz0 hz1 hz2 rfl (by decide) _ _ _ rfl (HO.out.alloc _) ⟨wr.heap.size, 0, none⟩ 1 1 [.int .u64 s.id] rfl rfl (Arr.add (Arr.new _ _ _)) (by simp [Value.oneCell']) (by unfold maxLen; omega) (by omega) (by simp; omega) ?_; intro v' w3 hown3 hgrow hnil; clear hnil; have y4 := (((((Fr.refl (fun kk => u5.ownBlock = some kk) wr).alloc _).grown hgrow (fun kk hkk _ => hkk)).cell lb1 (fun e => HAP.out _ e rfl) 4).trans x4); have ly := Nat.lt_of_lt_of_le lb1 (((Fr.refl (fun kk => u5.ownBlock = some kk) wr).alloc _).grown hgrow (fun kk hkk _ => hkk)).size; have HO3 := Lib.hid hown3; have HF3 := Lib.hid ((((Fr.refl (fun kk => u5.ownBlock = some kk) wr).alloc _).grown hgrow (fun kk hkk _ => hkk))); clear hown3 hgrow))
      go_roundg (B.length + 1 - (k + 1))
      case measure => omega
      case rel => exact ⟨k + 1, by omega, rfl, rfl, by rw [HST.out, ← u64c_snoc]; exact HO3.out, HN.out.then HF3.out (fun i hi e => by have := (HO.out.lt i e).1; omega)⟩
    · obtain rfl : B.length = k := by omega
      rw [List.getElem?_eq_none (by omega), show ptrO none = .pointer none from rfl]
      rw [List.take_of_length_le (Nat.le_refl _)] at HO
      clear hown hn
      go_wp2
      go_ret
      exact ⟨_, rfl, HO.out, HN.out⟩

set_option maxRecDepth 100000 in
set_option maxHeartbeats 1000000 in
theorem spoil_any (v : Value) (n base : Nat) (xs : List Value) (w : World) (h : w.ownsRow base 36 1 v n xs) :
    Calls Tryd.prog 14 #[v] w fun e w' => e = .returned (.tuple #[]) ∧ Fr (fun k => base ≤ k) w w' := by
  rcases h.2 with ⟨rfl, rfl⟩ | ⟨g, cap, cur, rfl, hg, hb, hle, hcap, hsz, _⟩
  · clear h
    go_enter Tryd.func14, Tryd.ntmps14
    go_wp2_with fail
    go_loopw [2] (fun i wr => i = .int .i64 0 ∧ wr = w) (fun _ _ => 0)
    case atStart => exact ⟨rfl, rfl⟩
    case round =>
      obtain ⟨rfl, rfl⟩ := hrel
      go_wp2
      go_end0
      exact ⟨rfl, Fr.refl _ _⟩
  · unfold maxLen at hcap
    have hlt := lt_of_block hb
    have HB := Lib.hid hb
    clear h hb
    go_enter Tryd.func14, Tryd.ntmps14
    go_wp2_with fail
    go_loopw [2] (fun i wr => ∃ k : Nat, k ≤ cap ∧ i = .int .i64 k ∧ (∃ cs, wr.heap[g]? = some (.cells cs 36 (0, 0)) ∧ cs.size = cap * 1) ∧ Fr (fun k => base ≤ k) w wr) (fun i _ => cap - (intOf i).toNat)
    case atStart => exact ⟨0, by omega, rfl, ⟨cur, HB.out, hsz⟩, Fr.refl _ _⟩
    case round =>
      obtain ⟨k, hk, rfl, ⟨cs, hcs, hcz⟩, hf⟩ := hrel
      have HF := Lib.hid hf
      by_cases hlt2 : k < cap
      · have x0 : wr.cell? ⟨g, k, none⟩ = some cs[k] := by rw [cell_of_block hcs]; simp
        have z0 := free_of_block hcs k
        have l0 := lt_of_block hcs
        have HCS := Lib.hid (block_setCell (o := k) hcs (.int .u64 9223372036854775813))
        clear hcs hf
        go_wp2_with fail
        go_roundw
        case rel => exact ⟨k + 1, by omega, by go_num, ⟨_, HCS.out, by simpa using hcz⟩, HF.out.setCell (fun _ => hg) _⟩
        case measure => simp [intOf]; omega
      · clear hcs hf
        go_wp2
        go_end0
        exact ⟨rfl, HF.out⟩

end Go.Proofs.YteeckkkbmlkkiaaDoor
