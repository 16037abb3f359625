/- A call at both; the comparison of all buckets. -/
import Derived.Test.YteeckkkbmlkkiaaDoorWaitS
import Derived.Test.YteeckkkbmlkkiaaDoorWithin
import Derived.Test.YteeckkkbmlkkiaaDoorDoorP
namespace Go.Proofs.YteeckkkbmlkkiaaDoor
open Go.RowKit

theorem nats_row {w : World} {base n : Nat} {v : Value} {xs : List Nat} (h : w.ownsRow base 36 1 v n (u64c xs)) : ∃ ao cap, v = .slice ao n cap ∧ Nats w ao xs := by
  obtain ⟨ao, cap, rfl, hc⟩ := owned_form h
  refine ⟨ao, cap, rfl, fun j x hj => ?_⟩
  obtain ⟨g, rfl, _, hg, hcell⟩ := hc j _ (u64c_get hj)
  exact ⟨g, 0, rfl, hg, by simpa using hcell⟩

section
variable {w : World} {qb lb mb rb n : Nat} {v : Value} {L : List Sl}
theorem pbucket_any (h : QRep w qb lb mb n L) (b : Int) (hb : -1 ≤ b ∧ b ≤ n) :
    Calls Tryd.prog 11 #[.pointer (some ⟨qb, 0, none⟩), .int .i64 b] w fun e w' => ∃ vl, e = .returned vl ∧ w'.ownsRow w.heap.size 36 1 vl (inI L n b).length (u64c ((inI L n b).map Sl.id)) ∧ New w w' := by
  by_cases hc : 0 ≤ b ∧ b < n
  · obtain ⟨j, rfl⟩ := Int.eq_ofNat_of_zero_le hc.1
    have e : inI L n j = inB (bucketN · n) L j := by
      unfold inI inB
      refine List.filter_congr fun s _ => ?_
      show (((bucketN s.addr n : Nat) : Int) == (j : Int)) = (bucketN s.addr n == j)
      by_cases e : bucketN s.addr n = j
      · rw [e, beq_self_eq_true, beq_self_eq_true]
      · rw [beq_eq_false_iff_ne.2 e, beq_eq_false_iff_ne]; omega
    rw [e]
    exact bucket_list qb lb mb n L j w h (by omega)
  · have e : inI L n b = [] := List.filter_eq_nil_iff.2 fun s _ => by
      have := bucketN_lt s.addr n h.few.1
      rw [beq_iff_eq]; omega
    rw [e]
    refine (bucket_no qb lb mb n L b w h (by omega)).mono ?_
    rintro e w' ⟨rfl, hn⟩
    exact ⟨_, rfl, World.ownsRow_nil _ _ _ _, hn⟩

set_option maxRecDepth 100000 in
set_option maxHeartbeats 4000000 in
theorem same10_any (h : BothQ w qb lb mb rb n v L L) :
    Calls Tryd.prog 20 #[.pointer (some ⟨qb, 0, none⟩), .pointer (some ⟨rb, 0, none⟩)] w fun e w' => e = .returned (.bool true) ∧ New w w' := by
  have hn1 := h.q.few.1
  have hn2 := h.q.few.2.1
  have hal : ∀ s ∈ L, s.addr < 18446744073709551616 := fun s hs => (h.q.each s hs).2.2.1
  have HAL := Lib.hid hal
  have H := Lib.hid h
  clear h hal
  go_enter Tryd.func20, Tryd.ntmps20
  go_wp2_with fail
  go_loopw [5] (fun i wr => ∃ k : Int, -1 ≤ k ∧ k ≤ n + 1 ∧ i = .int .i64 k ∧ New w wr) (fun i _ => ((n : Int) + 1 - intOf i).toNat)
  case atStart => exact ⟨-1, by omega, by omega, rfl, Fr.refl _ _⟩
  case round =>
    obtain ⟨k, hk0, hk, rfl, hnw⟩ := hrel
    have hb := H.out.new hnw
    have c1 : wr.cell? ⟨rb, 1, none⟩ = some (.int .i64 n) := cell_of_block hb.d.hd 1
    have HB := Lib.hid hb
    have HNW := Lib.hid hnw
    clear hb hnw
    by_cases hlt : k ≤ n
    · 
      go_wp2_with fail
      refine (pbucket_any HB.out.q _ (by omega)).mono ?_
      rintro e w3 ⟨vl, rfl, hrow3, hn3⟩
      have HW3 := Lib.hid hrow3
      have HB3 := Lib.hid (HB.out.new hn3)
      have HN3 := Lib.hid (HNW.out.trans hn3)
      have hz3 := hn3.size
      clear hrow3 hn3 c1
      go_wp2_with fail
      refine (rbucketL_any rb v L n _ w3 HB3.out.d HAL.out (by omega)).mono ?_
      rintro e w4 ⟨vl2, rfl, hrow4, hn4⟩
      have ha4 := own_kept HW3.out hn4 (fun _ _ => id)
      obtain ⟨ao2, ca2, rfl, hna⟩ := nats_row ha4
      obtain ⟨bo2, cb2, rfl, hnb⟩ := nats_row hrow4
      have hle : ((inI L n k).map Sl.id).length ≤ 10000 := by
        rw [List.length_map]
        exact Nat.le_trans (List.length_filter_le _ _) HB3.out.d.few.2.2
      have hws := words_same ((inI L n k).map Sl.id) ao2 bo2 ca2 cb2 w4 hna hnb (by omega)
      rw [List.length_map] at hws
      have HWS := Lib.hid hws
      have HN4 := Lib.hid (HN3.out.trans hn4)
      generalize (inI L n k).length = M at HWS ⊢
      clear hws hna hnb ha4 hrow4 hn4
      go_wp2_with fail
      refine HWS.out.mono ?_
      rintro e w5 ⟨rfl, hn5⟩
      have HN5 := Lib.hid (HN4.out.trans hn5)
      clear hn5
      go_wp2_with fail
      go_roundw
      case rel => exact ⟨k + 1, by omega, by omega, by go_num, HN5.out⟩
      case measure => simp [intOf]; omega
    · obtain ⟨ao2, cap2, rfl, _⟩ := owned_form HB.out.d.own
      obtain ⟨m, hm⟩ : ∃ m, L.length = m := ⟨_, rfl⟩
      have hd1 := HB.out.d.hd
      have hle := len_any qb lb mb n L
      have hcap := doc_cap HB.out.d.own
      have hml := HB.out.d.few.2.2
      rw [hm] at hd1 hle hcap hml
      have HLE := Lib.hid hle
      have HD1 := Lib.hid hd1
      clear hm hd1 hle
      have t0 : ((m : Int) == (m : Int)) = true := by simp
      go_wp2_with fail
      have s0 : wr.drew.cell? ⟨rb, 0, none⟩ = some (.slice ao2 m cap2) := cell_of_block HD1.out 0
      refine heldStart (fun W1 => W1.cell? ⟨rb, 0, none⟩ = some (.slice ao2 m cap2)) (by kernel_rfl) ?_
      have HQ := Lib.hid (HB.out.q.new (show New wr wr.drew from (Fr.refl _ _).drew))
      have HN1 := Lib.hid (HNW.out.trans (show New wr wr.drew from (Fr.refl _ _).drew))
      clear HB HNW HD1 c1
      generalize wr.drew = V0 at HQ HN1 s0 ⊢
      refine wpAnyH_take (i := 0) (v := ?_) rfl (by kernel_rfl) (by kernel_rfl) (by kernel_rfl) (fun _ _ _ h => h) (Or.inl ⟨by rfl, ?_⟩) s0 ?_
      rotate_left
      · intro w hSw; first | (obtain ⟨s1, s2, s3, s4, s5, s6, s7⟩ := hSw; go_simp; rfl) | (obtain ⟨s1, s2, s3⟩ := hSw; go_simp; rfl) | (obtain ⟨s1, s2⟩ := hSw; go_simp; rfl) | (have s1 := hSw; go_simp; rfl)
      go_simp
      refine wpAnyH_take (i := 2) (v := ?_) rfl (by kernel_rfl) (by kernel_rfl) (by kernel_rfl) (fun _ _ _ h => h) (Or.inl ⟨by rfl, ?_⟩) s0 ?_
      rotate_left
      · intro w hSw; first | (obtain ⟨s1, s2, s3, s4, s5, s6, s7⟩ := hSw; go_simp; rfl) | (obtain ⟨s1, s2, s3⟩ := hSw; go_simp; rfl) | (obtain ⟨s1, s2⟩ := hSw; go_simp; rfl) | (have s1 := hSw; go_simp; rfl)
      go_simp
      refine wpAnyH_take (i := 3) (v := ?_) rfl (by kernel_rfl) (by kernel_rfl) (by kernel_rfl) (fun _ _ _ h => h) (Or.inl ⟨by rfl, ?_⟩) s0 ?_
      rotate_left
      · intro w hSw; first | (obtain ⟨s1, s2, s3, s4, s5, s6, s7⟩ := hSw; go_simp; rfl) | (obtain ⟨s1, s2, s3⟩ := hSw; go_simp; rfl) | (obtain ⟨s1, s2⟩ := hSw; go_simp; rfl) | (have s1 := hSw; go_simp; rfl)
      go_simp
      refine wpAnyH_take (i := 4) (v := ?_) rfl (by kernel_rfl) (by kernel_rfl) (by kernel_rfl) (fun _ _ _ h => h) (Or.inl ⟨by rfl, ?_⟩) s0 ?_
      rotate_left
      · intro w hSw; first | (obtain ⟨s1, s2, s3, s4, s5, s6, s7⟩ := hSw; go_simp; rfl) | (obtain ⟨s1, s2, s3⟩ := hSw; go_simp; rfl) | (obtain ⟨s1, s2⟩ := hSw; go_simp; rfl) | (have s1 := hSw; go_simp; rfl)
      go_simp
      refine wpAnyH_take (i := 5) (v := ?_) rfl (by kernel_rfl) (by kernel_rfl) (by kernel_rfl) (fun _ _ _ h => h) (Or.inl ⟨by rfl, ?_⟩) s0 ?_
      rotate_left
      · intro w hSw; first | (obtain ⟨s1, s2, s3, s4, s5, s6, s7⟩ := hSw; go_simp; rfl) | (obtain ⟨s1, s2, s3⟩ := hSw; go_simp; rfl) | (obtain ⟨s1, s2⟩ := hSw; go_simp; rfl) | (have s1 := hSw; go_simp; rfl)
      go_simp
      refine wpAnyH_take (i := 6) (v := ?_) rfl (by kernel_rfl) (by kernel_rfl) (by kernel_rfl) (fun _ _ _ h => h) (Or.inl ⟨by rfl, ?_⟩) s0 ?_
      rotate_left
      · intro w hSw; first | (obtain ⟨s1, s2, s3, s4, s5, s6, s7⟩ := hSw; go_simp; rfl) | (obtain ⟨s1, s2, s3⟩ := hSw; go_simp; rfl) | (obtain ⟨s1, s2⟩ := hSw; go_simp; rfl) | (have s1 := hSw; go_simp; rfl)
      go_simp
      refine heldOne (i := 1) (by kernel_rfl) rfl (by rfl) (fun K hK => ?_)
      go_simp
      refine (HLE.out V0 HQ.out).mono ?_
      rintro e w3 ⟨rfl, rfl⟩
      refine hK.out _ _ s0 ?_
      clear hK K
      refine wpAnyH_take (i := 7) (v := ?_) rfl (by kernel_rfl) (by kernel_rfl) (by kernel_rfl) (fun _ _ _ h => h) (Or.inl ⟨by rfl, ?_⟩) s0 ?_
      rotate_left
      · intro w hSw; first | (obtain ⟨s1, s2, s3, s4, s5, s6, s7⟩ := hSw; go_simp; rfl) | (obtain ⟨s1, s2, s3⟩ := hSw; go_simp; rfl) | (obtain ⟨s1, s2⟩ := hSw; go_simp; rfl) | (have s1 := hSw; go_simp; rfl)
      go_simp
      refine wpAnyH_take (i := 8) (v := ?_) rfl (by kernel_rfl) (by kernel_rfl) (by kernel_rfl) (fun _ _ _ h => h) (Or.inl ⟨by rfl, ?_⟩) s0 ?_
      rotate_left
      · intro w hSw; first | (obtain ⟨s1, s2, s3, s4, s5, s6, s7⟩ := hSw; go_simp; rfl) | (obtain ⟨s1, s2, s3⟩ := hSw; go_simp; rfl) | (obtain ⟨s1, s2⟩ := hSw; go_simp; rfl) | (have s1 := hSw; go_simp; rfl)
      go_simp
      refine wpAnyH_done (by kernel_rfl) ?_ _
      clear s0
      go_wp2
      go_ret
      exact ⟨rfl, HN1.out⟩

structure StQ (w0 w : World) (qb lb mb rb n : Nat) (v : Value) (L L2 : List Sl) : Prop where
  b : BothQ w qb lb mb rb n v L L2
  f : FreshQ w0.heap.size qb lb mb rb v L
  n : New w0 w
theorem StQ.new {w0 w' : World} {L2 : List Sl} (h : StQ w0 w qb lb mb rb n v L L2) (f : New w w') : StQ w0 w' qb lb mb rb n v L L2 := ⟨h.b.new f, h.f, h.n.trans f⟩
theorem StQ.prog {w0 w' : World} {L' L2 : List Sl} (h : StQ w0 w qb lb mb rb n v L L2) (hr : QRep w' qb lb mb n L') (ho : Grows w.heap.size qb lb mb L L') (f : Fr (qOwn qb lb mb L) w w') : StQ w0 w' qb lb mb rb n v L' L2 :=
  ⟨h.b.prog hr ho f, h.f.prog ho h.n.size, h.n.then f (fun i hi e => by have := h.f i (.inl e); omega)⟩
theorem StQ.doc {w0 w' : World} {v' : Value} {L3 L2 : List Sl} (h : StQ w0 w qb lb mb rb n v L L2) (hr : DocQ w' rb v' L3 n) (ho : ∀ k, v'.ownBlock = some k → v.ownBlock = some k ∨ w.heap.size ≤ k) (f : Fr (· = rb) w w') : StQ w0 w' qb lb mb rb n v' L L3 :=
  ⟨h.b.doc hr ho f, h.f.doc ho h.n.size, h.n.then f (fun i hi e => by have := h.f i (.inr (.inl e)); omega)⟩
/-- Where the two stand behind j calls. -/
def PlayQ (w0 : World) (qb lb mb rb n j : Nat) (w : World) : Prop := ∃ v L, StQ w0 w qb lb mb rb n v L L ∧ L.length ≤ j
theorem idV_eq (o : Option Sl) : idV o = .tuple #[.int .u64 (((o.map Sl.id).getD 0 : Nat) : Int), .bool o.isSome] := rfl
theorem takeQ_le (L : List Sl) (o : Option Sl) : (takeQ L o).length ≤ L.length := by
  cases o with
  | none => exact Nat.le_refl _
  | some s => exact List.length_filter_le _ _
theorem without_lt {L : List Sl} {s : Sl} (hs : s ∈ L) : (without L s.id).length + 1 ≤ L.length := by
  have h1 : ∀ l : List Sl, s ∈ l → (without l s.id).length < l.length := by
    intro l
    induction l with
    | nil => intro h; cases h
    | cons x r ih =>
      intro h
      unfold without at ih ⊢
      by_cases e : x.id = s.id
      · rw [List.filter_cons_of_neg (by simpa using e)]
        exact Nat.lt_of_le_of_lt (List.length_filter_le _ _) (by simp)
      · rw [List.filter_cons_of_pos (by simpa using e)]
        have h2 : s ∈ r := by
          rcases List.mem_cons.1 h with h2 | h2
          · exact absurd (by rw [h2]) e
          · exact h2
        simpa using ih h2
  exact h1 L hs
theorem moveQ_le (L : List Sl) (a b : Nat) : (moveQ L (anyOf L a) b).length ≤ L.length := by
  cases h : anyOf L a with
  | none => exact Nat.le_refl _
  | some s =>
    have := without_lt (find_mem h)
    show (without L s.id ++ [_]).length ≤ _
    rw [List.length_append]; simpa using this
theorem putQ_le (L : List Sl) (u a m blk : Nat) : (putQ L u a m blk).length ≤ L.length + 1 := by
  unfold putQ
  split
  · omega
  · simp

set_option maxRecDepth 100000 in
set_option maxHeartbeats 8000000 in
theorem do10_any (w0 : World) (hg : Laid w0) {j : Nat} {d : Int} {u a t m : Nat} (hp : PlayQ w0 qb lb mb rb n j w) (hj : j ≤ 200) (hd : -9223372036854775808 ≤ d ∧ d ≤ 9223372036854775807)
    (hu : u < 18446744073709551616) (ha : a < 18446744073709551616) (ht : t < 18446744073709551616) (hm : m < 18446744073709551616) :
    Calls Tryd.prog 19 #[.pointer (some ⟨qb, 0, none⟩), .pointer (some ⟨rb, 0, none⟩), .agg #[.int .i64 d, .int .u64 u, .int .u64 a, .int .u64 t, .int .u64 m]] w fun e w' => e = .returned (.bool true) ∧ PlayQ w0 qb lb mb rb n (j + 1) w' := by
  obtain ⟨v, L, ⟨hb, hf, hn⟩, hl⟩ := hp
  obtain ⟨q, hq, hq5⟩ := within_nat d 9 (by omega)
  obtain ⟨W0, hW0⟩ : ∃ W0, w.alloc (.cells #[.int .i64 d, .int .u64 u, .int .u64 a, .int .u64 t, .int .u64 m] 52) = W0 := ⟨_, rfl⟩
  have hx0 : Arr W0 w.heap.size [.int .i64 d, .int .u64 u, .int .u64 a, .int .u64 t, .int .u64 m] := by rw [← hW0]; exact Arr.new _ _ _
  have hn0 : New w W0 := by rw [← hW0]; exact (Fr.refl _ _).alloc _
  have hcx : ¬ qOwn qb lb mb L w.heap.size := fun e => absurd (hb.q.lt e) (Nat.lt_irrefl _)
  have hrx : rb < w.heap.size := hb.d.lt (.inl rfl)
  have hxlt := hx0.lt
  have hxw : w0.heap.size ≤ w.heap.size := hn.size
  have hwd := within_any d 9 W0 (by omega) (by omega) (by omega) (by omega)
  rw [hq] at hwd
  have HWD := Lib.hid hwd
  have HX := Lib.hid hx0
  have HP0 := Lib.hid (show StQ w0 W0 qb lb mb rb n v L L from ⟨hb.new hn0, hf, hn.trans hn0⟩)
  have HG := Lib.hid hg
  have HCX := Lib.hid hcx
  have HW0 := Lib.hid hW0
  have HE := Lib.hid hb.q.each
  have HO := Lib.hid hb.q.once
  have hwz : w.heap.size ≤ W0.heap.size := hn0.size
  clear hW0 hx0 hn0 hcx hb hf hn hwd hq hg
  go_enter Tryd.func19, Tryd.ntmps19
  go_wp2_with fail
  rw [HW0.out]
  obtain ⟨xb, hxb⟩ : ∃ xb, w.heap.size = xb := ⟨_, rfl⟩
  rw [hxb] at HX HCX hrx hxlt hxw hwz ⊢
  clear hxb HW0
  refine HWD.out.mono ?_
  rintro e w1 ⟨rfl, rfl⟩
  clear HWD
  have HML := Lib.hid (show ∀ s ∈ L, s.mask < 18446744073709551616 from fun s hs => (HE.out s hs).2.2.2)
  have HAL := Lib.hid (show ∀ s ∈ L, s.addr < 18446744073709551616 from fun s hs => (HE.out s hs).2.2.1)
  rcases (show (q = 0 ∨ q = 1 ∨ q = 2) ∨ (q = 3 ∨ q = 4) ∨ q = 5 ∨ q = 6 ∨ q = 7 ∨ q = 8 by omega) with hq | hq | rfl | rfl | rfl | rfl
  · have e3 : ((q : Int) == 3) = false := by rw [beq_eq_false_iff_ne]; omega
    have e4 : ((q : Int) == 4) = false := by rw [beq_eq_false_iff_ne]; omega
    have e5 : ((q : Int) == 5) = false := by rw [beq_eq_false_iff_ne]; omega
    have e6 : ((q : Int) == 6) = false := by rw [beq_eq_false_iff_ne]; omega
    have e7 : ((q : Int) == 7) = false := by rw [beq_eq_false_iff_ne]; omega
    have e8 : ((q : Int) == 8) = false := by rw [beq_eq_false_iff_ne]; omega
    clear hq
    go_wp2_with fail
    have s0 : W0.drew.cell? ⟨xb, 1, none⟩ = some (.int .u64 u) ∧ W0.drew.cell? ⟨xb, 2, none⟩ = some (.int .u64 a) ∧ W0.drew.cell? ⟨xb, 4, none⟩ = some (.int .u64 m) := ⟨HX.out.cell 1 _ rfl, HX.out.cell 2 _ rfl, HX.out.cell 4 _ rfl⟩
    refine heldStart (fun W1 => W1.cell? ⟨xb, 1, none⟩ = some (.int .u64 u) ∧ W1.cell? ⟨xb, 2, none⟩ = some (.int .u64 a) ∧ W1.cell? ⟨xb, 4, none⟩ = some (.int .u64 m)) (by kernel_rfl) ?_
    refine wpAnyH_take (i := 0) (v := ?_) rfl (by kernel_rfl) (by kernel_rfl) (by kernel_rfl) (fun _ _ _ h => h) (Or.inl ⟨by rfl, ?_⟩) s0 ?_
    rotate_left
    · intro w hSw; first | (obtain ⟨s1, s2, s3, s4, s5, s6, s7⟩ := hSw; go_simp; rfl) | (obtain ⟨s1, s2, s3⟩ := hSw; go_simp; rfl) | (obtain ⟨s1, s2⟩ := hSw; go_simp; rfl) | (have s1 := hSw; go_simp; rfl)
    refine wpAnyH_take (i := 1) (v := ?_) rfl (by kernel_rfl) (by kernel_rfl) (by kernel_rfl) (fun _ _ _ h => h) (Or.inl ⟨by rfl, ?_⟩) s0 ?_
    rotate_left
    · intro w hSw; first | (obtain ⟨s1, s2, s3, s4, s5, s6, s7⟩ := hSw; go_simp; rfl) | (obtain ⟨s1, s2, s3⟩ := hSw; go_simp; rfl) | (obtain ⟨s1, s2⟩ := hSw; go_simp; rfl) | (have s1 := hSw; go_simp; rfl)
    refine wpAnyH_take (i := 2) (v := ?_) rfl (by kernel_rfl) (by kernel_rfl) (by kernel_rfl) (fun _ _ _ h => h) (Or.inl ⟨by rfl, ?_⟩) s0 ?_
    rotate_left
    · intro w hSw; first | (obtain ⟨s1, s2, s3, s4, s5, s6, s7⟩ := hSw; go_simp; rfl) | (obtain ⟨s1, s2, s3⟩ := hSw; go_simp; rfl) | (obtain ⟨s1, s2⟩ := hSw; go_simp; rfl) | (have s1 := hSw; go_simp; rfl)
    refine wpAnyH_take (i := 3) (v := ?_) rfl (by kernel_rfl) (by kernel_rfl) (by kernel_rfl) (fun _ _ _ h => h) (Or.inl ⟨by rfl, ?_⟩) s0 ?_
    rotate_left
    · intro w hSw; first | (obtain ⟨s1, s2, s3, s4, s5, s6, s7⟩ := hSw; go_simp; rfl) | (obtain ⟨s1, s2, s3⟩ := hSw; go_simp; rfl) | (obtain ⟨s1, s2⟩ := hSw; go_simp; rfl) | (have s1 := hSw; go_simp; rfl)
    refine wpAnyH_take (i := 4) (v := ?_) rfl (by kernel_rfl) (by kernel_rfl) (by kernel_rfl) (fun _ _ _ h => h) (Or.inl ⟨by rfl, ?_⟩) s0 ?_
    rotate_left
    · intro w hSw; first | (obtain ⟨s1, s2, s3, s4, s5, s6, s7⟩ := hSw; go_simp; rfl) | (obtain ⟨s1, s2, s3⟩ := hSw; go_simp; rfl) | (obtain ⟨s1, s2⟩ := hSw; go_simp; rfl) | (have s1 := hSw; go_simp; rfl)
    refine wpAnyH_take (i := 5) (v := ?_) rfl (by kernel_rfl) (by kernel_rfl) (by kernel_rfl) (fun _ _ _ h => h) (Or.inl ⟨by rfl, ?_⟩) s0 ?_
    rotate_left
    · intro w hSw; first | (obtain ⟨s1, s2, s3, s4, s5, s6, s7⟩ := hSw; go_simp; rfl) | (obtain ⟨s1, s2, s3⟩ := hSw; go_simp; rfl) | (obtain ⟨s1, s2⟩ := hSw; go_simp; rfl) | (have s1 := hSw; go_simp; rfl)
    refine wpAnyH_take (i := 6) (v := ?_) rfl (by kernel_rfl) (by kernel_rfl) (by kernel_rfl) (fun _ _ _ h => h) (Or.inl ⟨by rfl, ?_⟩) s0 ?_
    rotate_left
    · intro w hSw; first | (obtain ⟨s1, s2, s3, s4, s5, s6, s7⟩ := hSw; go_simp; rfl) | (obtain ⟨s1, s2, s3⟩ := hSw; go_simp; rfl) | (obtain ⟨s1, s2⟩ := hSw; go_simp; rfl) | (have s1 := hSw; go_simp; rfl)
    refine wpAnyH_take (i := 8) (v := ?_) rfl (by kernel_rfl) (by kernel_rfl) (by kernel_rfl) (fun _ _ _ h => h) (Or.inl ⟨by rfl, ?_⟩) s0 ?_
    rotate_left
    · intro w hSw; first | (obtain ⟨s1, s2, s3, s4, s5, s6, s7⟩ := hSw; go_simp; rfl) | (obtain ⟨s1, s2, s3⟩ := hSw; go_simp; rfl) | (obtain ⟨s1, s2⟩ := hSw; go_simp; rfl) | (have s1 := hSw; go_simp; rfl)
    refine wpAnyH_take (i := 9) (v := ?_) rfl (by kernel_rfl) (by kernel_rfl) (by kernel_rfl) (fun _ _ _ h => h) (Or.inl ⟨by rfl, ?_⟩) s0 ?_
    rotate_left
    · intro w hSw; first | (obtain ⟨s1, s2, s3, s4, s5, s6, s7⟩ := hSw; go_simp; rfl) | (obtain ⟨s1, s2, s3⟩ := hSw; go_simp; rfl) | (obtain ⟨s1, s2⟩ := hSw; go_simp; rfl) | (have s1 := hSw; go_simp; rfl)
    refine wpAnyH_take (i := 10) (v := ?_) rfl (by kernel_rfl) (by kernel_rfl) (by kernel_rfl) (fun _ _ _ h => h) (Or.inl ⟨by rfl, ?_⟩) s0 ?_
    rotate_left
    · intro w hSw; first | (obtain ⟨s1, s2, s3, s4, s5, s6, s7⟩ := hSw; go_simp; rfl) | (obtain ⟨s1, s2, s3⟩ := hSw; go_simp; rfl) | (obtain ⟨s1, s2⟩ := hSw; go_simp; rfl) | (have s1 := hSw; go_simp; rfl)
    refine wpAnyH_take (i := 11) (v := ?_) rfl (by kernel_rfl) (by kernel_rfl) (by kernel_rfl) (fun _ _ _ h => h) (Or.inl ⟨by rfl, ?_⟩) s0 ?_
    rotate_left
    · intro w hSw; first | (obtain ⟨s1, s2, s3, s4, s5, s6, s7⟩ := hSw; go_simp; rfl) | (obtain ⟨s1, s2, s3⟩ := hSw; go_simp; rfl) | (obtain ⟨s1, s2⟩ := hSw; go_simp; rfl) | (have s1 := hSw; go_simp; rfl)
    refine wpAnyH_take (i := 12) (v := ?_) rfl (by kernel_rfl) (by kernel_rfl) (by kernel_rfl) (fun _ _ _ h => h) (Or.inl ⟨by rfl, ?_⟩) s0 ?_
    rotate_left
    · intro w hSw; first | (obtain ⟨s1, s2, s3, s4, s5, s6, s7⟩ := hSw; go_simp; rfl) | (obtain ⟨s1, s2, s3⟩ := hSw; go_simp; rfl) | (obtain ⟨s1, s2⟩ := hSw; go_simp; rfl) | (have s1 := hSw; go_simp; rfl)
    refine wpAnyH_take (i := 13) (v := ?_) rfl (by kernel_rfl) (by kernel_rfl) (by kernel_rfl) (fun _ _ _ h => h) (Or.inl ⟨by rfl, ?_⟩) s0 ?_
    rotate_left
    · intro w hSw; first | (obtain ⟨s1, s2, s3, s4, s5, s6, s7⟩ := hSw; go_simp; rfl) | (obtain ⟨s1, s2, s3⟩ := hSw; go_simp; rfl) | (obtain ⟨s1, s2⟩ := hSw; go_simp; rfl) | (have s1 := hSw; go_simp; rfl)
    refine wpAnyH_take (i := 14) (v := ?_) rfl (by kernel_rfl) (by kernel_rfl) (by kernel_rfl) (fun _ _ _ h => h) (Or.inl ⟨by rfl, ?_⟩) s0 ?_
    rotate_left
    · intro w hSw; first | (obtain ⟨s1, s2, s3, s4, s5, s6, s7⟩ := hSw; go_simp; rfl) | (obtain ⟨s1, s2, s3⟩ := hSw; go_simp; rfl) | (obtain ⟨s1, s2⟩ := hSw; go_simp; rfl) | (have s1 := hSw; go_simp; rfl)
    have hd0 : New W0 W0.drew := (Fr.refl _ _).drew
    have HD := Lib.hid (HP0.out.new hd0)
    have hz0 : xb < W0.drew.heap.size := hxlt
    clear hd0
    generalize W0.drew = V0 at HD s0 hz0 ⊢
    refine heldOne (i := 7) (by kernel_rfl) rfl (by rfl) (fun K hK => ?_)
    go_simp
    refine (pput_any HD.out.b.q hu ha hm (by omega)).mono ?_
    rintro e w3 ⟨x, blk, rfl, hx, hr3, ho3, f3⟩
    have s1 : w3.cell? ⟨xb, 1, none⟩ = some (.int .u64 u) ∧ w3.cell? ⟨xb, 2, none⟩ = some (.int .u64 a) ∧ w3.cell? ⟨xb, 4, none⟩ = some (.int .u64 m) := ⟨(f3.cell hz0 HCX.out _).trans s0.1, (f3.cell hz0 HCX.out _).trans s0.2.1, (f3.cell hz0 HCX.out _).trans s0.2.2⟩
    have G3 := Lib.hid (HD.out.prog hr3 ho3 f3)
    have hz1 := f3.size
    refine hK.out _ _ s1 ?_
    clear hK K hr3 ho3
    refine heldOne (i := 15) (by kernel_rfl) rfl (by rfl) (fun K hK => ?_)
    go_simp
    refine (rput_any rb v L n u a m blk w3 G3.out.b.d (by omega)).mono ?_
    rintro e w4 ⟨f, rfl, hfl, v4, hr4, ho4, f4⟩
    have hx4 : Says w4 waitL x (putErr L u) := Says.keep f4 (fun b c hb e => by
      subst e
      rw [G3.out.b.d.hd, Option.some.injEq, Obj.cells.injEq] at hb
      exact absurd hb.2.1 (by decide)) hx
    have s2 : w4.cell? ⟨xb, 1, none⟩ = some (.int .u64 u) ∧ w4.cell? ⟨xb, 2, none⟩ = some (.int .u64 a) ∧ w4.cell? ⟨xb, 4, none⟩ = some (.int .u64 m) := ⟨(f4.cell (by omega) (by omega) _).trans s1.1, (f4.cell (by omega) (by omega) _).trans s1.2.1, (f4.cell (by omega) (by omega) _).trans s1.2.2⟩
    have G4 := Lib.hid (G3.out.doc hr4 ho4 f4)
    have hz2 := f4.size
    refine hK.out _ _ s2 ?_
    clear hK K hx hr4 ho4
    refine heldOne (i := 16) (by kernel_rfl) rfl (by rfl) (fun K hK => ?_)
    go_simp
    refine (same_says x f waitL _ w4 (HG.out.keep G4.out.n id) hx4 hfl).mono ?_
    rintro e w5 ⟨rfl, hn5⟩
    have s3 : w5.cell? ⟨xb, 1, none⟩ = some (.int .u64 u) ∧ w5.cell? ⟨xb, 2, none⟩ = some (.int .u64 a) ∧ w5.cell? ⟨xb, 4, none⟩ = some (.int .u64 m) := ⟨(hn5.cell (by omega) id _).trans s2.1, (hn5.cell (by omega) id _).trans s2.2.1, (hn5.cell (by omega) id _).trans s2.2.2⟩
    have G5 := Lib.hid (G4.out.new hn5)
    refine hK.out _ _ s3 ?_
    clear hK K hx4 hfl s2 s1 s0 f3 f4 hn5
    refine wpAnyH_take (i := 17) (v := ?_) rfl (by kernel_rfl) (by kernel_rfl) (by kernel_rfl) (fun _ _ _ h => h) (Or.inl ⟨by rfl, ?_⟩) s3 ?_
    rotate_left
    · intro w hSw; first | (obtain ⟨s1, s2, s3, s4, s5, s6, s7⟩ := hSw; go_simp; rfl) | (obtain ⟨s1, s2, s3⟩ := hSw; go_simp; rfl) | (obtain ⟨s1, s2⟩ := hSw; go_simp; rfl) | (have s1 := hSw; go_simp; rfl)
    refine wpAnyH_done (by kernel_rfl) ?_ _
    clear s3
    go_wp2
    go_ret
    exact ⟨rfl, _, _, G5.out, by have := putQ_le L u a m blk; omega⟩
  · rcases hq with rfl | rfl
    all_goals
      first | rw [show ((3 : Nat) : Int) = 3 from rfl] | rw [show ((4 : Nat) : Int) = 4 from rfl]
      have x1 : W0.cell? ⟨xb, 2, none⟩ = some (.int .u64 a) := HX.out.cell 2 _ rfl
      have x2 : W0.cell? ⟨xb, 4, none⟩ = some (.int .u64 m) := HX.out.cell 4 _ rfl
      have hpt := ptake_any HP0.out.b.q ha hm
      have hdt := fun w1 (h1 : DocQ w1 rb v L n) => rtake_any h1 hm HML.out HO.out (a := a)
      obtain ⟨o, ho⟩ : ∃ o, firstOf L a m = o := ⟨_, rfl⟩
      have hlo : (takeQ L (firstOf L a m)).length ≤ L.length := takeQ_le _ _
      rw [ho] at hpt hlo
      rw [idV_eq] at hpt
      simp only [ho, idV_eq] at hdt
      generalize (o.map Sl.id).getD 0 = z at hpt hdt
      generalize hy : o.isSome = y at hpt hdt
      have u1 : ((z : Int) == (z : Int)) = true := by simp
      have u2 : (y == y) = true := by simp
      have HPT := Lib.hid hpt
      have HDT := Lib.hid hdt
      have HLO := Lib.hid hlo
      clear hpt hdt hlo ho hy
      go_wp2_with fail
      refine HPT.out.mono ?_
      rintro e w3 ⟨rfl, hr3, ho3, f3⟩
      have y1 : w3.cell? ⟨xb, 2, none⟩ = some (.int .u64 a) := (f3.cell hxlt HCX.out _).trans x1
      have y2 : w3.cell? ⟨xb, 4, none⟩ = some (.int .u64 m) := (f3.cell hxlt HCX.out _).trans x2
      have G3 := Lib.hid (HP0.out.prog hr3 ho3 f3)
      clear hr3 ho3 f3 x1 x2
      go_wp2_with fail
      refine (HDT.out _ G3.out.b.d).mono ?_
      rintro e w4 ⟨rfl, v4, hr4, ho4, f4⟩
      have G4 := Lib.hid (G3.out.doc hr4 ho4 f4)
      clear hr4 ho4 f4 y1 y2
      go_wp2
      go_ret
      exact ⟨rfl, _, _, G4.out, by have := HLO.out; omega⟩
  · rw [show ((5 : Nat) : Int) = 5 from rfl]
    have x1 : W0.cell? ⟨xb, 2, none⟩ = some (.int .u64 a) := HX.out.cell 2 _ rfl
    have x2 : W0.cell? ⟨xb, 3, none⟩ = some (.int .u64 t) := HX.out.cell 3 _ rfl
    have hpt := pmove_any HP0.out.b.q ha ht
    have hdt := fun w1 (h1 : DocQ w1 rb v L n) => rmove_any (b := t) h1 HML.out HO.out (by omega) (a := a)
    obtain ⟨o, ho⟩ : ∃ o, anyOf L a = o := ⟨_, rfl⟩
    have hlo : (moveQ L (anyOf L a) t).length ≤ L.length := moveQ_le _ _ _
    rw [ho] at hpt hlo
    rw [idV_eq] at hpt
    simp only [ho, idV_eq] at hdt
    generalize (o.map Sl.id).getD 0 = z at hpt hdt
    generalize hy : o.isSome = y at hpt hdt
    have u1 : ((z : Int) == (z : Int)) = true := by simp
    have u2 : (y == y) = true := by simp
    have HPT := Lib.hid hpt
    have HDT := Lib.hid hdt
    have HLO := Lib.hid hlo
    clear hpt hdt hlo ho hy
    go_wp2_with fail
    refine HPT.out.mono ?_
    rintro e w3 ⟨rfl, hr3, ho3, f3⟩
    have y1 : w3.cell? ⟨xb, 2, none⟩ = some (.int .u64 a) := (f3.cell hxlt HCX.out _).trans x1
    have y2 : w3.cell? ⟨xb, 3, none⟩ = some (.int .u64 t) := (f3.cell hxlt HCX.out _).trans x2
    have G3 := Lib.hid (HP0.out.prog hr3 ho3 f3)
    clear hr3 ho3 f3 x1 x2
    go_wp2_with fail
    refine (HDT.out _ G3.out.b.d).mono ?_
    rintro e w4 ⟨rfl, v4, hr4, ho4, f4⟩
    have G4 := Lib.hid (G3.out.doc hr4 ho4 f4)
    clear hr4 ho4 f4 y1 y2
    go_wp2
    go_ret
    exact ⟨rfl, _, _, G4.out, by have := HLO.out; omega⟩
  · rw [show ((6 : Nat) : Int) = 6 from rfl]
    obtain ⟨y, hy⟩ : ∃ y, hasId L u = y := ⟨_, rfl⟩
    have u2 : (y == y) = true := by simp
    have HY := Lib.hid hy
    clear hy
    go_wp2_with fail
    have s0 : W0.drew.cell? ⟨xb, 1, none⟩ = some (.int .u64 u) := HX.out.cell 1 _ rfl
    refine heldStart (fun W1 => W1.cell? ⟨xb, 1, none⟩ = some (.int .u64 u)) (by kernel_rfl) ?_
    refine wpAnyH_take (i := 0) (v := ?_) rfl (by kernel_rfl) (by kernel_rfl) (by kernel_rfl) (fun _ _ _ h => h) (Or.inl ⟨by rfl, ?_⟩) s0 ?_
    rotate_left
    · intro w hSw; first | (obtain ⟨s1, s2, s3, s4, s5, s6, s7⟩ := hSw; go_simp; rfl) | (obtain ⟨s1, s2, s3⟩ := hSw; go_simp; rfl) | (obtain ⟨s1, s2⟩ := hSw; go_simp; rfl) | (have s1 := hSw; go_simp; rfl)
    refine wpAnyH_take (i := 1) (v := ?_) rfl (by kernel_rfl) (by kernel_rfl) (by kernel_rfl) (fun _ _ _ h => h) (Or.inl ⟨by rfl, ?_⟩) s0 ?_
    rotate_left
    · intro w hSw; first | (obtain ⟨s1, s2, s3, s4, s5, s6, s7⟩ := hSw; go_simp; rfl) | (obtain ⟨s1, s2, s3⟩ := hSw; go_simp; rfl) | (obtain ⟨s1, s2⟩ := hSw; go_simp; rfl) | (have s1 := hSw; go_simp; rfl)
    refine wpAnyH_take (i := 2) (v := ?_) rfl (by kernel_rfl) (by kernel_rfl) (by kernel_rfl) (fun _ _ _ h => h) (Or.inl ⟨by rfl, ?_⟩) s0 ?_
    rotate_left
    · intro w hSw; first | (obtain ⟨s1, s2, s3, s4, s5, s6, s7⟩ := hSw; go_simp; rfl) | (obtain ⟨s1, s2, s3⟩ := hSw; go_simp; rfl) | (obtain ⟨s1, s2⟩ := hSw; go_simp; rfl) | (have s1 := hSw; go_simp; rfl)
    refine wpAnyH_take (i := 4) (v := ?_) rfl (by kernel_rfl) (by kernel_rfl) (by kernel_rfl) (fun _ _ _ h => h) (Or.inl ⟨by rfl, ?_⟩) s0 ?_
    rotate_left
    · intro w hSw; first | (obtain ⟨s1, s2, s3, s4, s5, s6, s7⟩ := hSw; go_simp; rfl) | (obtain ⟨s1, s2, s3⟩ := hSw; go_simp; rfl) | (obtain ⟨s1, s2⟩ := hSw; go_simp; rfl) | (have s1 := hSw; go_simp; rfl)
    refine wpAnyH_take (i := 5) (v := ?_) rfl (by kernel_rfl) (by kernel_rfl) (by kernel_rfl) (fun _ _ _ h => h) (Or.inl ⟨by rfl, ?_⟩) s0 ?_
    rotate_left
    · intro w hSw; first | (obtain ⟨s1, s2, s3, s4, s5, s6, s7⟩ := hSw; go_simp; rfl) | (obtain ⟨s1, s2, s3⟩ := hSw; go_simp; rfl) | (obtain ⟨s1, s2⟩ := hSw; go_simp; rfl) | (have s1 := hSw; go_simp; rfl)
    refine wpAnyH_take (i := 6) (v := ?_) rfl (by kernel_rfl) (by kernel_rfl) (by kernel_rfl) (fun _ _ _ h => h) (Or.inl ⟨by rfl, ?_⟩) s0 ?_
    rotate_left
    · intro w hSw; first | (obtain ⟨s1, s2, s3, s4, s5, s6, s7⟩ := hSw; go_simp; rfl) | (obtain ⟨s1, s2, s3⟩ := hSw; go_simp; rfl) | (obtain ⟨s1, s2⟩ := hSw; go_simp; rfl) | (have s1 := hSw; go_simp; rfl)
    have hd0 : New W0 W0.drew := (Fr.refl _ _).drew
    have HD := Lib.hid (HP0.out.new hd0)
    have hz0 : xb < W0.drew.heap.size := hxlt
    clear hd0
    generalize W0.drew = V0 at HD s0 hz0 ⊢
    refine heldOne (i := 3) (by kernel_rfl) rfl (by rfl) (fun K hK => ?_)
    go_simp
    refine (pdrop_any HD.out.b.q hu).mono ?_
    rintro e w3 ⟨rfl, hr3, ho3, f3⟩
    rw [HY.out]
    have s1 : w3.cell? ⟨xb, 1, none⟩ = some (.int .u64 u) := (f3.cell hz0 HCX.out _).trans s0
    have G3 := Lib.hid (HD.out.prog hr3 ho3 f3)
    have hz1 := f3.size
    refine hK.out _ _ s1 ?_
    clear hK K hr3 ho3
    refine heldOne (i := 7) (by kernel_rfl) rfl (by rfl) (fun K hK => ?_)
    go_simp
    refine (rdrop_any (u := u) G3.out.b.d HO.out).mono ?_
    rintro e w4 ⟨rfl, v4, hr4, ho4, f4⟩
    rw [HY.out]
    have s2 : w4.cell? ⟨xb, 1, none⟩ = some (.int .u64 u) := (f4.cell (by omega) (by omega) _).trans s1
    have G4 := Lib.hid (G3.out.doc hr4 ho4 f4)
    refine hK.out _ _ s2 ?_
    clear hK K hr4 ho4 s1 s0 f3 f4
    refine wpAnyH_take (i := 8) (v := ?_) rfl (by kernel_rfl) (by kernel_rfl) (by kernel_rfl) (fun _ _ _ h => h) (Or.inl ⟨by rfl, ?_⟩) s2 ?_
    rotate_left
    · intro w hSw; first | (obtain ⟨s1, s2, s3, s4, s5, s6, s7⟩ := hSw; go_simp; rfl) | (obtain ⟨s1, s2, s3⟩ := hSw; go_simp; rfl) | (obtain ⟨s1, s2⟩ := hSw; go_simp; rfl) | (have s1 := hSw; go_simp; rfl)
    refine wpAnyH_take (i := 9) (v := ?_) rfl (by kernel_rfl) (by kernel_rfl) (by kernel_rfl) (fun _ _ _ h => h) (Or.inl ⟨by rfl, ?_⟩) s2 ?_
    rotate_left
    · intro w hSw; first | (obtain ⟨s1, s2, s3, s4, s5, s6, s7⟩ := hSw; go_simp; rfl) | (obtain ⟨s1, s2, s3⟩ := hSw; go_simp; rfl) | (obtain ⟨s1, s2⟩ := hSw; go_simp; rfl) | (have s1 := hSw; go_simp; rfl)
    refine wpAnyH_done (by kernel_rfl) ?_ _
    clear s2
    go_wp2
    go_ret
    exact ⟨rfl, _, _, G4.out, by have : (without L u).length ≤ L.length := List.length_filter_le _ _
                                 omega⟩
  · rw [show ((7 : Nat) : Int) = 7 from rfl]
    obtain ⟨y, hy⟩ : ∃ y, (firstOf L a m).isSome = y := ⟨_, rfl⟩
    have u2 : (y == y) = true := by simp
    have HY := Lib.hid hy
    clear hy
    go_wp2_with fail
    have s0 : W0.drew.cell? ⟨xb, 2, none⟩ = some (.int .u64 a) ∧ W0.drew.cell? ⟨xb, 4, none⟩ = some (.int .u64 m) := ⟨HX.out.cell 2 _ rfl, HX.out.cell 4 _ rfl⟩
    refine heldStart (fun W1 => W1.cell? ⟨xb, 2, none⟩ = some (.int .u64 a) ∧ W1.cell? ⟨xb, 4, none⟩ = some (.int .u64 m)) (by kernel_rfl) ?_
    refine wpAnyH_take (i := 0) (v := ?_) rfl (by kernel_rfl) (by kernel_rfl) (by kernel_rfl) (fun _ _ _ h => h) (Or.inl ⟨by rfl, ?_⟩) s0 ?_
    rotate_left
    · intro w hSw; first | (obtain ⟨s1, s2, s3, s4, s5, s6, s7⟩ := hSw; go_simp; rfl) | (obtain ⟨s1, s2, s3⟩ := hSw; go_simp; rfl) | (obtain ⟨s1, s2⟩ := hSw; go_simp; rfl) | (have s1 := hSw; go_simp; rfl)
    refine wpAnyH_take (i := 1) (v := ?_) rfl (by kernel_rfl) (by kernel_rfl) (by kernel_rfl) (fun _ _ _ h => h) (Or.inl ⟨by rfl, ?_⟩) s0 ?_
    rotate_left
    · intro w hSw; first | (obtain ⟨s1, s2, s3, s4, s5, s6, s7⟩ := hSw; go_simp; rfl) | (obtain ⟨s1, s2, s3⟩ := hSw; go_simp; rfl) | (obtain ⟨s1, s2⟩ := hSw; go_simp; rfl) | (have s1 := hSw; go_simp; rfl)
    refine wpAnyH_take (i := 2) (v := ?_) rfl (by kernel_rfl) (by kernel_rfl) (by kernel_rfl) (fun _ _ _ h => h) (Or.inl ⟨by rfl, ?_⟩) s0 ?_
    rotate_left
    · intro w hSw; first | (obtain ⟨s1, s2, s3, s4, s5, s6, s7⟩ := hSw; go_simp; rfl) | (obtain ⟨s1, s2, s3⟩ := hSw; go_simp; rfl) | (obtain ⟨s1, s2⟩ := hSw; go_simp; rfl) | (have s1 := hSw; go_simp; rfl)
    refine wpAnyH_take (i := 3) (v := ?_) rfl (by kernel_rfl) (by kernel_rfl) (by kernel_rfl) (fun _ _ _ h => h) (Or.inl ⟨by rfl, ?_⟩) s0 ?_
    rotate_left
    · intro w hSw; first | (obtain ⟨s1, s2, s3, s4, s5, s6, s7⟩ := hSw; go_simp; rfl) | (obtain ⟨s1, s2, s3⟩ := hSw; go_simp; rfl) | (obtain ⟨s1, s2⟩ := hSw; go_simp; rfl) | (have s1 := hSw; go_simp; rfl)
    refine wpAnyH_take (i := 4) (v := ?_) rfl (by kernel_rfl) (by kernel_rfl) (by kernel_rfl) (fun _ _ _ h => h) (Or.inl ⟨by rfl, ?_⟩) s0 ?_
    rotate_left
    · intro w hSw; first | (obtain ⟨s1, s2, s3, s4, s5, s6, s7⟩ := hSw; go_simp; rfl) | (obtain ⟨s1, s2, s3⟩ := hSw; go_simp; rfl) | (obtain ⟨s1, s2⟩ := hSw; go_simp; rfl) | (have s1 := hSw; go_simp; rfl)
    refine wpAnyH_take (i := 6) (v := ?_) rfl (by kernel_rfl) (by kernel_rfl) (by kernel_rfl) (fun _ _ _ h => h) (Or.inl ⟨by rfl, ?_⟩) s0 ?_
    rotate_left
    · intro w hSw; first | (obtain ⟨s1, s2, s3, s4, s5, s6, s7⟩ := hSw; go_simp; rfl) | (obtain ⟨s1, s2, s3⟩ := hSw; go_simp; rfl) | (obtain ⟨s1, s2⟩ := hSw; go_simp; rfl) | (have s1 := hSw; go_simp; rfl)
    refine wpAnyH_take (i := 7) (v := ?_) rfl (by kernel_rfl) (by kernel_rfl) (by kernel_rfl) (fun _ _ _ h => h) (Or.inl ⟨by rfl, ?_⟩) s0 ?_
    rotate_left
    · intro w hSw; first | (obtain ⟨s1, s2, s3, s4, s5, s6, s7⟩ := hSw; go_simp; rfl) | (obtain ⟨s1, s2, s3⟩ := hSw; go_simp; rfl) | (obtain ⟨s1, s2⟩ := hSw; go_simp; rfl) | (have s1 := hSw; go_simp; rfl)
    refine wpAnyH_take (i := 8) (v := ?_) rfl (by kernel_rfl) (by kernel_rfl) (by kernel_rfl) (fun _ _ _ h => h) (Or.inl ⟨by rfl, ?_⟩) s0 ?_
    rotate_left
    · intro w hSw; first | (obtain ⟨s1, s2, s3, s4, s5, s6, s7⟩ := hSw; go_simp; rfl) | (obtain ⟨s1, s2, s3⟩ := hSw; go_simp; rfl) | (obtain ⟨s1, s2⟩ := hSw; go_simp; rfl) | (have s1 := hSw; go_simp; rfl)
    refine wpAnyH_take (i := 9) (v := ?_) rfl (by kernel_rfl) (by kernel_rfl) (by kernel_rfl) (fun _ _ _ h => h) (Or.inl ⟨by rfl, ?_⟩) s0 ?_
    rotate_left
    · intro w hSw; first | (obtain ⟨s1, s2, s3, s4, s5, s6, s7⟩ := hSw; go_simp; rfl) | (obtain ⟨s1, s2, s3⟩ := hSw; go_simp; rfl) | (obtain ⟨s1, s2⟩ := hSw; go_simp; rfl) | (have s1 := hSw; go_simp; rfl)
    refine wpAnyH_take (i := 10) (v := ?_) rfl (by kernel_rfl) (by kernel_rfl) (by kernel_rfl) (fun _ _ _ h => h) (Or.inl ⟨by rfl, ?_⟩) s0 ?_
    rotate_left
    · intro w hSw; first | (obtain ⟨s1, s2, s3, s4, s5, s6, s7⟩ := hSw; go_simp; rfl) | (obtain ⟨s1, s2, s3⟩ := hSw; go_simp; rfl) | (obtain ⟨s1, s2⟩ := hSw; go_simp; rfl) | (have s1 := hSw; go_simp; rfl)
    have hd0 : New W0 W0.drew := (Fr.refl _ _).drew
    have HD := Lib.hid (HP0.out.new hd0)
    have hz0 : xb < W0.drew.heap.size := hxlt
    clear hd0
    generalize W0.drew = V0 at HD s0 hz0 ⊢
    refine heldOne (i := 5) (by kernel_rfl) rfl (by rfl) (fun K hK => ?_)
    go_simp
    refine (has_any qb lb mb n L a m V0 HD.out.b.q ha hm).mono ?_
    rintro e w3 ⟨rfl, hn3⟩
    rw [HY.out]
    have s1 : w3.cell? ⟨xb, 2, none⟩ = some (.int .u64 a) ∧ w3.cell? ⟨xb, 4, none⟩ = some (.int .u64 m) := ⟨(hn3.cell hz0 id _).trans s0.1, (hn3.cell hz0 id _).trans s0.2⟩
    have G3 := Lib.hid (HD.out.new hn3)
    refine hK.out _ _ s1 ?_
    clear hK K
    refine heldOne (i := 11) (by kernel_rfl) rfl (by rfl) (fun K hK => ?_)
    go_simp
    refine (rhas_any G3.out.b.d hm HML.out (a := a)).mono ?_
    rintro e w4 ⟨rfl, rfl⟩
    rw [HY.out]
    refine hK.out _ _ s1 ?_
    clear hK K s0 hn3
    refine wpAnyH_take (i := 12) (v := ?_) rfl (by kernel_rfl) (by kernel_rfl) (by kernel_rfl) (fun _ _ _ h => h) (Or.inl ⟨by rfl, ?_⟩) s1 ?_
    rotate_left
    · intro w hSw; first | (obtain ⟨s1, s2, s3, s4, s5, s6, s7⟩ := hSw; go_simp; rfl) | (obtain ⟨s1, s2, s3⟩ := hSw; go_simp; rfl) | (obtain ⟨s1, s2⟩ := hSw; go_simp; rfl) | (have s1 := hSw; go_simp; rfl)
    refine wpAnyH_take (i := 13) (v := ?_) rfl (by kernel_rfl) (by kernel_rfl) (by kernel_rfl) (fun _ _ _ h => h) (Or.inl ⟨by rfl, ?_⟩) s1 ?_
    rotate_left
    · intro w hSw; first | (obtain ⟨s1, s2, s3, s4, s5, s6, s7⟩ := hSw; go_simp; rfl) | (obtain ⟨s1, s2, s3⟩ := hSw; go_simp; rfl) | (obtain ⟨s1, s2⟩ := hSw; go_simp; rfl) | (have s1 := hSw; go_simp; rfl)
    refine wpAnyH_done (by kernel_rfl) ?_ _
    clear s1
    go_wp2
    go_ret
    exact ⟨rfl, _, _, G3.out, by omega⟩
  · rw [show ((8 : Nat) : Int) = 8 from rfl]
    have x1 : W0.cell? ⟨xb, 1, none⟩ = some (.int .u64 u) := HX.out.cell 1 _ rfl
    have hpw := pwhere_any HP0.out.b.q hu
    have hdw := fun w1 (h1 : DocQ w1 rb v L n) => rwhere_any (u := u) h1 HAL.out
    generalize (L.find? fun s => s.id == u) = o at hpw hdw
    obtain ⟨z1, z2, z3, y, hv⟩ : ∃ (z1 z2 : Nat) (z3 : Int) (y : Bool), whereV n o = .tuple #[.int .u64 z1, .int .u64 z2, .int .i64 z3, .bool y] := by
      cases o with
      | none => exact ⟨0, 0, 0, false, rfl⟩
      | some s => exact ⟨s.addr, s.mask, _, true, rfl⟩
    rw [hv] at hpw
    simp only [hv] at hdw
    have u1 : ((z1 : Int) == (z1 : Int)) = true := by simp
    have u2 : ((z2 : Int) == (z2 : Int)) = true := by simp
    have u3 : (z3 == z3) = true := by simp
    have u4 : (y == y) = true := by simp
    have HPW := Lib.hid hpw
    have HDW := Lib.hid hdw
    clear hpw hdw hv
    go_wp2_with fail
    refine HPW.out.mono ?_
    rintro e w3 ⟨rfl, hn3⟩
    have y1 : w3.cell? ⟨xb, 1, none⟩ = some (.int .u64 u) := (hn3.cell hxlt id _).trans x1
    have G3 := Lib.hid (HP0.out.new hn3)
    clear hn3 x1
    go_wp2_with fail
    refine (HDW.out _ G3.out.b.d).mono ?_
    rintro e w4 ⟨rfl, hn4⟩
    have G4 := Lib.hid (G3.out.new hn4)
    clear hn4 y1
    go_wp2
    go_ret
    exact ⟨rfl, _, _, G4.out, by omega⟩
end

end Go.Proofs.YteeckkkbmlkkiaaDoor
