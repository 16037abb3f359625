/- The queues of those that wait, in memory; making them, buckets, who is the first. -/
import Derived.Test.YteeckkkbmlkkiaaDoorWaitP
import Derived.Deep.LoopGhost
import Derived.BigQuiet
import Derived.Deep.QuietTactic
namespace Go.Proofs.YteeckkkbmlkkiaaDoor
open Go.RowKit Go.Maps

/-- An address's bucket, behind a name that nobody opens. -/
theorem bucketEx : ∃ f : Nat → Nat → Nat, ∀ a n, f a n = a * 11400714819323198485 % 18446744073709551616 / 4294967296 % n := ⟨_, fun _ _ => rfl⟩
noncomputable def bucketN : Nat → Nat → Nat := Classical.choose bucketEx
theorem bucketN_eq (a n : Nat) : bucketN a n = a * 11400714819323198485 % 18446744073709551616 / 4294967296 % n := Classical.choose_spec bucketEx a n
theorem bucketN_lt (a n : Nat) (h : 1 ≤ n) : bucketN a n < n := by rw [bucketN_eq]; exact Nat.mod_lt _ (by omega)
theorem bucket_spell (a n : Nat) (h : 1 ≤ n) (hn : n ≤ 9223372036854775807) : wrap64 ((IntKind.u64.wrap ((a : Int) * 11400714819323198485) / 4294967296).tmod (n : Int)) = ((bucketN a n : Nat) : Int) := by
  rw [bucketN_eq]
  rw [show IntKind.u64.wrap ((a : Int) * 11400714819323198485) = ((a * 11400714819323198485 % 18446744073709551616 : Nat) : Int) by simp [IntKind.wrap, IntKind.signed, IntKind.bits]]
  rw [Int.tmod_eq_emod_of_nonneg (by omega), show (4294967296 : Int) = ((4294967296 : Nat) : Int) from rfl, ← Int.natCast_ediv, ← Int.natCast_emod]
  have := Nat.mod_lt (a * 11400714819323198485 % 18446744073709551616 / 4294967296) (show 0 < n by omega)
  unfold wrap64
  omega
set_option maxRecDepth 100000 in
set_option maxHeartbeats 400000 in
theorem bucket_any (a n : Nat) (w : World) (h : 1 ≤ n) (hn : n ≤ 9223372036854775807) (ha : a < 18446744073709551616) :
    Calls Tryd.prog 44 #[.int .u64 a, .int .i64 n] w fun e w' => e = .returned (.int .i64 (bucketN a n : Nat)) ∧ w = w' := by
  go_enter Tryd.func44, Tryd.ntmps44
  go_wp2
  go_ret
  exact ⟨ret_int (bucket_spell a n h hn), rfl⟩
/-- Do two masks meet? -/
def meetB (a b : Nat) : Bool := bits .and .u64 (a : Int) (b : Int) != 0
set_option maxRecDepth 100000 in
set_option maxHeartbeats 400000 in
theorem meet_any (a b : Nat) (w : World) (ha : a < 18446744073709551616) (hb : b < 18446744073709551616) :
    Calls Tryd.prog 53 #[.int .u64 a, .int .u64 b] w fun e w' => e = .returned (.bool (meetB a b)) ∧ w = w' := by
  obtain ⟨m, hm⟩ : ∃ m, meetB a b = m := ⟨_, rfl⟩
  rw [hm]
  have HM := Lib.hid hm
  clear hm
  go_enter Tryd.func53, Tryd.ntmps53
  go_wp2
  go_ret
  exact ⟨ret_bool HM.out, rfl⟩

theorem keyInt : Tryd.prog.underlying 36 = some (.int .u64) := Tryd.underlying36
theorem zeroP (w : World) : (zeroValue 71).run Tryd.prog w = .ok (.pointer none) w := by kernel_rfl

/-- Block qb is the queues: lb their ends, mb where everybody is; L: all that wait, in the order in which they came. (But for the map.) -/
structure QCore (w : World) (qb lb mb n : Nat) (L : List Sl) : Prop where
  hd : Arr w qb [.slice (some ⟨lb, 0, none⟩) n n, .map (some mb)]
  qs : ∀ j, j < n → w.cell? ⟨lb, j * 2, none⟩ = some (ptrO (inB (bucketN · n) L j).head?) ∧ w.cell? ⟨lb, j * 2 + 1, none⟩ = some (ptrO (inB (bucketN · n) L j).getLast?)
  lbf : lb < w.heap.size ∧ ∀ o, w.frozen? ⟨lb, o, none⟩ = false
  links : ∀ j, Links w (inB (bucketN · n) L j)
  once : Once L
  each : ∀ s ∈ L, 1 ≤ s.id ∧ s.id < 18446744073709551616 ∧ s.addr < 18446744073709551616 ∧ s.mask < 18446744073709551616
  far : qb ≠ lb ∧ mb ≠ qb ∧ mb ≠ lb ∧ ∀ s ∈ L, s.blk ≠ qb ∧ s.blk ≠ lb ∧ s.blk ≠ mb
  few : 1 ≤ n ∧ n ≤ 64 ∧ L.length ≤ 1000000
/-- .. with the map. -/
structure QRep (w : World) (qb lb mb n : Nat) (L : List Sl) : Prop extends QCore w qb lb mb n L where
  map : MapIs Tryd.prog 36 .u64 w mb L.length (byOf L)
/-- Their blocks. -/
def qOwn (qb lb mb : Nat) (L : List Sl) (k : Nat) : Prop := k = qb ∨ k = lb ∨ k = mb ∨ ∃ s ∈ L, s.blk = k
theorem QCore.keep {w w' : World} {qb lb mb n : Nat} {L : List Sl} {S : Nat → Prop} (h : QCore w qb lb mb n L) (f : Fr S w w') (hs : ∀ k, qOwn qb lb mb L k → k ≠ mb → ¬ S k) : QCore w' qb lb mb n L :=
  have h1 : ¬ S lb := hs _ (.inr (.inl rfl)) (Ne.symm h.far.2.2.1)
  ⟨h.hd.keep f (hs _ (.inl rfl) (Ne.symm h.far.2.1)), fun j hj => ⟨(f.cell h.lbf.1 h1 _).trans (h.qs j hj).1, (f.cell h.lbf.1 h1 _).trans (h.qs j hj).2⟩,
    ⟨Nat.lt_of_lt_of_le h.lbf.1 f.size, fun o => (f.frozen h.lbf.1 h1 o).trans (h.lbf.2 o)⟩,
    fun j => (h.links j).keep f (fun s hs' => hs _ (.inr (.inr (.inr ⟨s, (inB_mem.1 hs').1, rfl⟩))) (h.far.2.2.2 s (inB_mem.1 hs').1).2.2), h.once, h.each, h.far, h.few⟩
theorem QRep.keep {w w' : World} {qb lb mb n : Nat} {L : List Sl} {S : Nat → Prop} (h : QRep w qb lb mb n L) (f : Fr S w w') (hs : ∀ k, qOwn qb lb mb L k → ¬ S k) : QRep w' qb lb mb n L :=
  ⟨h.toQCore.keep f (fun k hk _ => hs k hk), h.map.keep f (hs _ (.inr (.inr (.inl rfl))))⟩
theorem QRep.new {w w' : World} {qb lb mb n : Nat} {L : List Sl} (h : QRep w qb lb mb n L) (f : New w w') : QRep w' qb lb mb n L := h.keep f (fun _ _ => id)
/-- The block of one that waits. -/
theorem QCore.block {w : World} {qb lb mb n : Nat} {L : List Sl} (h : QCore w qb lb mb n L) {s : Sl} (hs : s ∈ L) : ∃ p x, w.heap[s.blk]? = some (.cells (slCells s p x) 75 (0, 0)) := by
  have hm : s ∈ inB (bucketN · n) L (bucketN s.addr n) := inB_mem.2 ⟨hs, rfl⟩
  obtain ⟨i, hi⟩ := List.mem_iff_getElem?.1 hm
  exact ⟨_, _, h.links _ i s hi⟩
theorem QRep.lt {w : World} {qb lb mb n : Nat} {L : List Sl} (h : QRep w qb lb mb n L) {k : Nat} (hk : qOwn qb lb mb L k) : k < w.heap.size := by
  rcases hk with rfl | rfl | rfl | ⟨s, hs, rfl⟩
  · exact h.hd.lt
  · exact h.lbf.1
  · exact h.map.lt
  · obtain ⟨p, x, hb⟩ := h.block hs; exact lt_of_block hb

set_option maxRecDepth 100000 in
set_option maxHeartbeats 400000 in
theorem qbucket_any (qb lb mb n a : Nat) (v : Value) (w : World) (hd : Arr w qb [.slice (some ⟨lb, 0, none⟩) n n, v]) (h1 : 1 ≤ n) (h2 : n ≤ 64) (ha : a < 18446744073709551616) :
    Calls Tryd.prog 26 #[.pointer (some ⟨qb, 0, none⟩), .int .u64 a] w fun e w' => e = .returned (.int .i64 (bucketN a n : Nat)) ∧ w = w' := by
  have c0 := hd.cell 0 _ rfl
  have l1 := hd.lt
  have hb := fun w => bucket_any a n w h1 (by omega) ha
  generalize bucketN a n = k at hb
  have HB := Lib.hid hb
  clear hb hd
  go_enter Tryd.func26, Tryd.ntmps26
  go_wp2_with (go_at_call 44; refine (HB.out _).mono ?_; rintro e w' ⟨rfl, rfl⟩)
  go_ret
  exact ⟨rfl, rfl⟩

/-- Does one that waits fit? -/
def fitsB (a m : Nat) (each : Bool) (s : Sl) : Bool := s.addr == a && (each || meetB s.mask m)

theorem fit_yes {a e m : Bool} (h : a = true ∧ (e = true ∨ m = true)) : (a && (e || m)) = true := by cases a <;> cases e <;> cases m <;> simp_all
theorem fit_no {a e m : Bool} (h : ¬ (a = true ∧ (e = true ∨ m = true))) : (a && (e || m)) = false := by cases a <;> cases e <;> cases m <;> simp_all
theorem fit_cases {a e m : Bool} (h : ¬ (a = true ∧ (e = true ∨ m = true))) : a = false ∨ (a = true ∧ e = false ∧ m = false) := by cases a <;> cases e <;> cases m <;> simp_all
theorem find_at {p : Sl → Bool} : ∀ {B : List Sl} {k : Nat} {s : Sl}, B[k]? = some s → p s = true → (∀ (i : Nat) (x : Sl), i < k → B[i]? = some x → p x = false) → B.find? p = some s
  | [], k, s, h, _, _ => by simp at h
  | b :: r, 0, s, h, hp, _ => by
    obtain rfl : b = s := by simpa using h
    rw [List.find?_cons_of_pos hp]
  | b :: r, k + 1, s, h, hp, hn => by
    rw [List.find?_cons_of_neg (by rw [hn 0 b (by omega) rfl]; simp)]
    exact find_at (B := r) (k := k) (by simpa using h) hp (fun i x hi hx => hn (i + 1) x (by omega) (by simpa using hx))
theorem find_never {p : Sl → Bool} {B : List Sl} (h : ∀ (i : Nat) (x : Sl), B[i]? = some x → p x = false) : B.find? p = none :=
  List.find?_eq_none.2 fun x hx => by
    obtain ⟨i, hi⟩ := List.mem_iff_getElem?.1 hx
    rw [h i x hi]; simp

set_option maxRecDepth 100000 in
set_option maxHeartbeats 2000000 in
theorem first_any (qb lb mb n : Nat) (L : List Sl) (a m : Nat) (each : Bool) (w : World) (h : QRep w qb lb mb n L) (ha : a < 18446744073709551616) (hm : m < 18446744073709551616) :
    Calls Tryd.prog 43 #[.pointer (some ⟨qb, 0, none⟩), .int .u64 a, .int .u64 m, .bool each] w fun e w' => e = .returned (ptrO ((inB (bucketN · n) L (bucketN a n)).find? (fitsB a m each))) ∧ New w w' := by
  obtain ⟨R, hR⟩ : ∃ R, ptrO ((inB (bucketN · n) L (bucketN a n)).find? (fitsB a m each)) = R := ⟨_, rfl⟩
  rw [hR]
  have c0 := h.hd.cell 0 _ rfl
  have l1 := h.hd.lt
  have hfew := h.few
  have hbl := bucketN_lt a n hfew.1
  have hq := h.qs _ hbl
  have hlb := h.lbf.1
  have hqb := fun k => qbucket_any qb lb mb n a (.map (some mb)) (w.drewN k) (h.hd.keep ((Fr.refl (fun _ => False) w).drewN k) id) hfew.1 hfew.2.1 ha
  obtain ⟨B, hB⟩ : ∃ B, inB (bucketN · n) L (bucketN a n) = B := ⟨_, rfl⟩
  have hlk := h.links (bucketN a n)
  have heach : ∀ s ∈ B, s.addr < 18446744073709551616 ∧ s.mask < 18446744073709551616 := fun s hs => by
    rw [← hB] at hs
    have := h.each s (inB_mem.1 hs).1
    omega
  rw [hB] at hR hq hlk
  generalize bucketN a n = j at hqb hq hbl
  have cf := hq.1
  have hj0 : (0 : Int) ≤ (j : Int) := by omega
  have hj1 : (j : Int) < (n : Int) := by omega
  have HQB := Lib.hid hqb
  have HR := Lib.hid hR
  have HLK := Lib.hid hlk
  have HEA := Lib.hid heach
  have H := Lib.hid h
  clear hqb hR hlk heach hB hq h
  go_enter Tryd.func43, Tryd.ntmps43
  go_wp2_with fail
  go_quiet ((go_at_call 26; exact Calls.quiet_of_same ((HQB.out _).mono fun _ _ h => ⟨h.1, h.2.symm⟩)))
  have f0 : New w (w.drewN nq) := (Fr.refl _ _).drewN nq
  generalize w.drewN nq = w0 at f0 ⊢
  have F0 := Lib.hid f0
  have hhead : B.head? = B[0]? := by cases B <;> rfl
  rw [hhead]
  clear cf c0 hhead f0
  go_wp2_with fail
  go_loopg [9] (B.length + 1) (fun g p wr => ∃ k : Nat, k ≤ B.length ∧ g = B.length + 1 - k ∧ p = ptrO B[k]? ∧ (∀ i s, i < k → B[i]? = some s → fitsB a m each s = false) ∧ New w wr)
  case atStart => exact ⟨0, by omega, by omega, rfl, fun i s hi => by omega, F0.out⟩
  case round =>
    obtain ⟨k, hk, rfl, rfl, hno, hn⟩ := hrel
    have HNO := Lib.hid hno
    have HN := Lib.hid hn
    by_cases hlt : k < B.length
    · obtain ⟨s, hs⟩ : ∃ s, B[k]? = some s := ⟨B[k], by simp⟩
      have hblk := HLK.out.keep hn (fun _ _ => id) k s hs
      have x1 := cell_of_block hblk 1
      have x2 := cell_of_block hblk 2
      have x4 := cell_of_block hblk 4
      rw [show (slCells s (prevOf B k) B[k + 1]?)[1]? = some (.int .u64 s.addr) from rfl] at x1
      rw [show (slCells s (prevOf B k) B[k + 1]?)[2]? = some (.int .u64 s.mask) from rfl] at x2
      rw [show (slCells s (prevOf B k) B[k + 1]?)[4]? = some (ptrO B[k + 1]?) from rfl] at x4
      have lb1 := lt_of_block hblk
      have hbd := HEA.out s (List.mem_of_getElem? hs)
      rw [hs, show ptrO (some s) = .pointer (some ⟨s.blk, 0, none⟩) from rfl]
      have HS := Lib.hid hs
      have hmt := fun w => meet_any s.mask m w hbd.2 hm
      obtain ⟨mm, hmm⟩ : ∃ x, meetB s.mask m = x := ⟨_, rfl⟩
      rw [hmm] at hmt
      have HMT := Lib.hid hmt
      have HMM := Lib.hid hmm
      obtain ⟨sa, hsa⟩ : ∃ x, ((s.addr : Int) == (a : Int)) = x := ⟨_, rfl⟩
      have HSA := Lib.hid hsa
      have hfit : fitsB a m each s = (sa && (each || mm)) := by
        unfold fitsB
        rw [HMM.out, ← hsa, show (s.addr == a) = ((s.addr : Int) == (a : Int)) by rw [Bool.eq_iff_iff]; simp; omega]
      have HFIT := Lib.hid hfit
      clear hno hn hblk hs hmt hmm hfit
      by_cases hyes : sa = true ∧ (each = true ∨ mm = true)
      · have hfound : R = .pointer (some ⟨s.blk, 0, none⟩) := by
          rw [← HR.out, find_at HS.out (by rw [HFIT.out]; exact fit_yes hyes) HNO.out]; rfl
        have HFO := Lib.hid hfound
        obtain ⟨hsa1, hor⟩ := hyes
        subst hsa1
        clear hfound HR
        cases each
        · obtain rfl : mm = true := by simpa using hor
          clear hor
          go_wp2_with fail
          refine (HMT.out _).mono ?_
          rintro e w' ⟨rfl, rfl⟩
          go_wp2
          go_ret
          exact ⟨by rw [HFO.out]; rfl, HN.out⟩
        · clear hor
          go_wp2
          go_ret
          exact ⟨by rw [HFO.out]; rfl, HN.out⟩
      · have hno' : fitsB a m each s = false := by rw [HFIT.out]; exact fit_no hyes
        have HNX := Lib.hid hno'
        clear hno'
        have hcase : sa = false ∨ (sa = true ∧ each = false ∧ mm = false) := fit_cases hyes
        clear hyes
        rcases hcase with rfl | ⟨rfl, rfl, rfl⟩
        · go_wp2_with fail
          go_roundg (B.length + 1 - (k + 1))
          case measure => omega
          case rel => exact ⟨k + 1, by omega, rfl, rfl, fun i x hi hx => by
            by_cases e : i = k
            · subst e; rw [HS.out] at hx; rw [← Option.some.inj hx]; exact HNX.out
            · exact HNO.out i x (by omega) hx, HN.out⟩
        · go_wp2_with fail
          refine (HMT.out _).mono ?_
          rintro e w' ⟨rfl, rfl⟩
          go_wp2_with fail
          go_roundg (B.length + 1 - (k + 1))
          case measure => omega
          case rel => exact ⟨k + 1, by omega, rfl, rfl, fun i x hi hx => by
            by_cases e : i = k
            · subst e; rw [HS.out] at hx; rw [← Option.some.inj hx]; exact HNX.out
            · exact HNO.out i x (by omega) hx, HN.out⟩
    · rw [List.getElem?_eq_none (by omega), show ptrO none = .pointer none from rfl]
      clear hno hn
      go_wp2
      go_ret
      refine ⟨?_, HN.out⟩
      rw [← HR.out, find_never (fun i x hx => HNO.out i x (by have := (List.getElem?_eq_some_iff.1 hx).1; omega) hx)]; rfl

end Go.Proofs.YteeckkkbmlkkiaaDoor
